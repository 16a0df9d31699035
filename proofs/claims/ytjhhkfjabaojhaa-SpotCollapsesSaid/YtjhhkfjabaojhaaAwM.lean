/- An abstract program logic over the model, thirteenth part: slices that are built or cut; each operation. -/
import Derived.Test.YtjhhkfjabaojhaaAwL
import Derived.Great.BuildSlice
namespace Go.Proofs.Ytjhhkfjabaojhaa.Aw
open Go

theorem Cat.take {α : Type} {R : α → List Value → Prop} {n : Nat} (hR : ∀ x cs, R x cs → cs.length = n) : ∀ (xs : List α) cs (i : Nat), Cat R xs cs → Cat R (xs.take i) (cs.take (i * n))
  | [], _, i, h => by cases h; simp [Cat]
  | _ :: _, _, 0, _ => by simp [Cat]
  | x :: xs, _, i + 1, ⟨c1, c2, e, h1, h2⟩ => by
    have l1 := hR _ _ h1
    refine ⟨c1, c2.take (i * n), ?_, h1, Cat.take hR xs c2 i h2⟩
    rw [e, List.take_append, List.take_of_length_le (by rw [l1, Nat.add_mul]; omega), show (i + 1) * n - c1.length = i * n by rw [l1, Nat.add_mul]; omega]
theorem Cat.drop {α : Type} {R : α → List Value → Prop} {n : Nat} (hR : ∀ x cs, R x cs → cs.length = n) : ∀ (xs : List α) cs (i : Nat), Cat R xs cs → Cat R (xs.drop i) (cs.drop (i * n))
  | [], _, i, h => by cases h; simp [Cat]
  | _ :: _, _, 0, h => by simpa using h
  | x :: xs, _, i + 1, ⟨c1, c2, e, h1, h2⟩ => by
    have l1 := hR _ _ h1
    have ih := Cat.drop hR xs c2 i h2
    have t1 : c1.drop ((i + 1) * n) = [] := List.drop_of_length_le (by rw [l1, Nat.add_mul]; omega)
    rw [e, List.drop_append, t1, show (i + 1) * n - c1.length = i * n by rw [l1, Nat.add_mul]; omega]
    exact ih
section
variable {P : Program} {T : Tab} {env : Env} {M S0 : Nat → Prop} {w0 : World} {S : Nat → Prop} {β : Nat → Cr} {H : Nat → Ob} {w : World} {o : Oper} {a : Act} {ev : Operand → AV} {nid : Nat} {r : Res}
theorem zeros_of {z : Array Value} {zs : List AV} (h : VLs S w β H zs z.toList) (hp : 0 < z.size) : ∀ n : Nat, VLs S w β H (List.replicate n zs).flatten (((Array.range (n * z.size)).map (z[· % z.size]!)).toList)
  | 0 => by simp [VLs]
  | n + 1 => by
    have ih := zeros_of h hp n
    have e : ((Array.range ((n + 1) * z.size)).map (z[· % z.size]!)).toList = ((Array.range (n * z.size)).map (z[· % z.size]!)).toList ++ z.toList := by
      apply List.ext_getElem
      · simp [Nat.add_mul]
      · intro i h1 h2
        simp only [Array.getElem_toList, Array.getElem_map, Array.getElem_range]
        by_cases hi : i < n * z.size
        · rw [List.getElem_append_left (by simpa using hi)]
          simp
        · rw [List.getElem_append_right (by simp; omega)]
          have h3 : i < (n + 1) * z.size := by simpa using h1
          rw [Nat.add_mul] at h3
          have hm : i % z.size = i - n * z.size := by
            rw [show i = (i - n * z.size) + z.size * n by rw [Nat.mul_comm z.size n]; omega, Nat.add_mul_mod_self_left, Nat.mod_eq_of_lt (by omega), Nat.mul_comm z.size n]
            omega
          simp only [hm]
          simp only [Array.length_toList, Array.size_map, Array.size_range, Array.getElem_toList]
          rw [getElem!_pos z (i - n * z.size) (by omega)]
    rw [e, List.replicate_succ', List.flatten_append]
    simpa using VLs.append _ _ _ _ ih h
theorem s_buildSlice {t : TypeId} {n : Nat} {ps : Array (Nat × Operand)} (ho : o.op = .buildSlice t n ps) (c : Cx P T M S0 w0 S β H w a ev nid r) (hs : semOp T env ev H nid o = some r) : Goes P M S0 w0 S β H w o a r := by
  simp only [semOp, ho] at hs
  split at hs
  rotate_left
  · cases hs
  rename_i e hd
  split at hs
  rotate_left
  · cases hs
  rename_i ty hte
  split at hs
  rotate_left
  · cases hs
  rename_i hc
  obtain ⟨hk, hsz, hpos, hn, hbig⟩ := hc
  split at hs
  rotate_left
  · cases hs
  rename_i l' hf
  split at hs
  rotate_left
  · cases hs
  rename_i xs hdec
  simp only [Option.some.injEq] at hs
  obtain ⟨i, z, h1, h2, h3, h4⟩ := zero_of c.hT (known_d hk)
  have hzc : z.cells.size = ty.size := by
    have h7 := VLs.length _ _ (h4 S w β H)
    rw [← Array.length_toList, h7, (c.hT e (known_d hk)).zl, hsz]
  have hz := zeros_of (h4 S w β H) (by omega) n
  have hp : ∀ f q, partOf T ⟨.array n e, n * ty.size, 0, [], none, false⟩ f = some q → (fun i : Nat => (some (i * ty.size, ty.size) : Option (Nat × Nat))) f = some q := by
    intro f q hq
    simp only [partOf] at hq
    split at hq
    · cases hq
    · split at hq
      · cases hq; simp only [hsz]
      · cases hq
  obtain ⟨cs', g1, g2⟩ := fill_of (a := a) hp c.hev ps.toList _ l' _ hz hf
  obtain ⟨hcat, hlen⟩ := decs_of n l' _ xs g2 hdec
  have hcl := Cat.length (DR.length ty) _ _ hcat
  have hnn : H nid = .none := c.fresh (by rw [← hs]; simp)
  have hmx : n ≤ maxLen := by
    have : n * 1 ≤ n * ty.size := Nat.mul_le_mul_left _ hpos
    simp only [maxLen]; omega
  obtain ⟨hr, hx⟩ := c.rel.new nid hnn cs' e n (.row e ty xs) (fun β' H' w' he hh => .inr ⟨_, cs', rfl, hh, Nat.le_of_eq hlen, hmx, by rw [← Array.length_toList, hcl, hlen], by
    rw [← hcl, List.take_length]
    exact Cat.dr_mono he.hS hcat⟩)
  clear hz hf hdec hte
  have hi : i.size = ty.size := h3.trans hsz
  have k1 : ¬ n * i.size > 2 ^ 24 := by
    rw [hi]
    have : (2 : Nat) ^ 24 = 16777216 := by decide
    omega
  have k2 : ¬ n * i.size = 0 := by rw [hi]; exact Nat.ne_of_gt (Nat.mul_pos hn hpos)
  have k3 : Instr.fill (fun j => some (j * i.size, i.size)) ((Array.range (n * i.size)).map (z.cells[· % z.cells.size]!)) (ps.map fun p => (p.1, a.eval p.2)).toList = some cs' := by
    rw [Array.toList_map, hi]
    rw [hzc] at g1 ⊢
    exact g1
  have hrun := run_buildSlice (P := P) w t e n (ps.map fun p => (p.1, a.eval p.2)) cs' i z (run_slice_desc c.hT hd) h1 h2 k1 k2 k3
  subst hs
  intro next Q hnx
  have hv : VL S (w.alloc (.cells cs' e)) (setC β nid ⟨some w.heap.size, n⟩) (updH H [(nid, .row e ty xs)]) (.row nid) [.slice (some ⟨w.heap.size, 0, none⟩) n n] := by
    refine ⟨_, rfl, ?_⟩
    simp only [leaf, updH_one, setC_one]
    rw [rowV_some (g := w.heap.size) rfl, hlen]
  have hn2 := hnx _ _ _ _ hr hv hx
  have he : execOp a.eval o = (do pure (Next.value (← Instr.buildSlice t n (ps.map fun p => (p.1, a.eval p.2))))) := by
    simp only [execOp, ho]
  exact wp_val he hrun hn2
theorem cut_list {e : TypeId} {ty : Ty} {xs : List ty.den} {ao : Option Addr} {n c : Nat} {es : List Value} (e2 : n = xs.length) (e3 : n ≤ c) (e4 : Cat (DR S w ty) xs es) (e5 : Rd S w ao es) (l h : Nat) (h1 : l ≤ h) (h2 : h ≤ n) :
    DR S w (.list e ty) ((xs.take h).drop l) [sliced ao l h c ty.size] := by
  refine ⟨if c = l then ao else ao.map (·.add (l * ty.size)), h - l, c - l, (es.take (h * ty.size)).drop (l * ty.size), rfl, by simp; omega, by omega, Cat.drop (DR.length ty) _ _ _ (Cat.take (DR.length ty) _ _ _ e4), ?_⟩
  intro j u hj
  rw [List.getElem?_drop, List.getElem?_take] at hj
  split at hj
  rotate_left
  · cases hj
  rename_i hlt
  obtain ⟨ad, q1, q2, q3⟩ := e5 _ _ hj
  have hcl : ¬ c = l := by
    intro e
    have : h = l := by omega
    rw [this] at hlt
    omega
  rw [if_neg hcl, q1]
  refine ⟨ad.add (l * ty.size), rfl, ?_, ?_⟩
  · rw [show (ad.add (l * ty.size)).block = ad.block by unfold Addr.add; split <;> rfl]; exact q2
  · rw [add_add]; exact q3
theorem s_slice {t : TypeId} {x : Operand} {lo hi : Option Operand} (ho : o.op = .slice t x lo hi none) (c : Cx P T M S0 w0 S β H w a ev nid r) (hs : semOp T env ev H nid o = some r) : Goes P M S0 w0 S β H w o a r := by
  simp only [semOp, ho] at hs
  have hx := c.hev x
  split at hs
  rotate_left
  · cases hs
  rename_i e e' ty xs hd ex
  rw [ex] at hx
  obtain ⟨u, e1, hl⟩ := hx
  cases e1
  obtain ⟨ao, n, cc, es, q1, q2, q3, q4, q5⟩ := hl
  simp only [List.cons.injEq, and_true] at q1
  split at hs
  rotate_left
  · cases hs
  rename_i hk
  have hel : P.elem t = e := by simp [Program.elem, run_slice_desc c.hT hd]
  have ht : P.underlying t = some (.slice (P.elem t)) := by rw [hel]; exact run_slice_desc c.hT hd
  have hsz := run_sizeOf c.hT (known_d hk.1)
  have key : ∀ (u : Value) (v : AV) (gs : List Prop), (Instr.sliceAt t (a.eval x) (lo.map a.eval) (hi.map a.eval) none).run P w = .ok u w → VL S w β H v [u] → r = ⟨gs, v, []⟩ → Goes P M S0 w0 S β H w o a r := by
    intro u v gs hr hv e
    subst e
    exact goes_same (u := u) c rfl (s := Instr.sliceAt t (a.eval x) (lo.map a.eval) (hi.map a.eval) none) (by simp only [execOp, ho]; rfl) hr hv
  split at hs
  · rename_i kh h elo ehi
    obtain ⟨y, e7, e8⟩ := Option.map_eq_some_iff.1 ehi
    have e9 := Option.map_eq_none_iff.1 elo
    subst e7
    subst e9
    have hy := c.hev y
    rw [e8] at hy
    have hy := VL.int hy
    simp only [okIf, Option.some.injEq] at hs
    have g0 := c.hgs (0 ≤ h) (by rw [← hs]; simp)
    have g1 := c.hgs (h ≤ (xs.length : Int)) (by rw [← hs]; simp)
    refine key (sliced ao 0 h.toNat cc ty.size) (.list e' ty ((xs.take h.toNat).drop 0)) _ ?_ ⟨_, rfl, cut_list (e := e') q2 q3 q4 q5 0 h.toNat (Nat.zero_le _) (by omega)⟩ (by rw [← hs, List.drop_zero])
    rw [run_sliceAt_slice w t _ _ _ _ ht, q1]
    simp only [Option.map_some, Option.map_none, hy]
    rw [run_slice_h w t ao n cc ht kh h g0 (by omega), hel, hsz, Result.andThen_ok, hk.2]
  · rename_i kl l elo ehi
    obtain ⟨y, e7, e8⟩ := Option.map_eq_some_iff.1 elo
    have e9 := Option.map_eq_none_iff.1 ehi
    subst e7
    subst e9
    have hy := c.hev y
    rw [e8] at hy
    have hy := VL.int hy
    simp only [okIf, Option.some.injEq] at hs
    have g0 := c.hgs (0 ≤ l) (by rw [← hs]; simp)
    have g1 := c.hgs (l ≤ (xs.length : Int)) (by rw [← hs]; simp)
    refine key (sliced ao l.toNat n cc ty.size) (.list e' ty ((xs.take n).drop l.toNat)) _ ?_ ⟨_, rfl, cut_list (e := e') q2 q3 q4 q5 l.toNat n (by omega) (Nat.le_refl _)⟩ (by rw [← hs, q2, List.take_length])
    rw [run_sliceAt_slice w t _ _ _ _ ht, q1]
    simp only [Option.map_some, Option.map_none, hy]
    rw [run_slice_l w t ao n cc ht kl l g0 (by omega), hel, hsz, Result.andThen_ok, hk.2]
  · rename_i kl l kh h elo ehi
    obtain ⟨y, e7, e8⟩ := Option.map_eq_some_iff.1 elo
    obtain ⟨z, e9, e10⟩ := Option.map_eq_some_iff.1 ehi
    subst e7
    subst e9
    have hy := c.hev y
    rw [e8] at hy
    have hy := VL.int hy
    have hz := c.hev z
    rw [e10] at hz
    have hz := VL.int hz
    simp only [okIf, Option.some.injEq] at hs
    have g0 := c.hgs (0 ≤ l) (by rw [← hs]; simp)
    have g1 := c.hgs (l ≤ h) (by rw [← hs]; simp)
    have g2 := c.hgs (h ≤ (xs.length : Int)) (by rw [← hs]; simp)
    refine key (sliced ao l.toNat h.toNat cc ty.size) (.list e' ty ((xs.take h.toNat).drop l.toNat)) _ ?_ ⟨_, rfl, cut_list (e := e') q2 q3 q4 q5 l.toNat h.toNat (by omega) (by omega)⟩ (by rw [← hs])
    rw [run_sliceAt_slice w t _ _ _ _ ht, q1]
    simp only [Option.map_some, hy, hz]
    rw [run_slice_lh w t ao n cc ht kl kh l h g0 g1 (by omega), hel, hsz, Result.andThen_ok, hk.2]
  · cases hs
end
end Go.Proofs.Ytjhhkfjabaojhaa.Aw
