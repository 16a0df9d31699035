/- An abstract program logic over the model, fifth part: what is known of types holds; single operations that only look. -/
import Derived.Test.YtkpjcmiijlpcaaaAwD
import Derived.Laws.StructEq
import Derived.ChangeKeysEq
namespace Go.Proofs.Ytkpjcmiijlpcaaa.Aw
open Go

def notAgg : TypeDesc → Bool
  | .struct _ => false
  | .array _ _ => false
  | _ => true
def aggV : Value → Bool
  | .agg _ => true
  | _ => false
def aggD : TypeDesc → Bool
  | .struct _ => true
  | .array _ _ => true
  | _ => false
/-- The zero of a type has its type's shape. -/
def zeroShape (P : Program) (e : TypeId) : Bool := match P.info? e, P.underlying e with
  | some f, some d => match f.zero with
    | some z => aggV z == aggD d
    | none => false
  | _, _ => false
def DescOk (P : Program) (t : TypeId) (i : TI) : Prop := match i.d with
  | .unk => True
  | .scalar => ∃ d, P.underlying t = some d ∧ notAgg d = true ∧ (∀ k, i.t = some (.int k) → d = .int k) ∧ (i.t = some .bool → d = .bool) ∧ (i.t = some .str → d = .string) ∧ (i.zero = [.nilp] → ∃ e, d = .pointer e)
  | .slice e => P.underlying t = some (.slice e)
  | .struct fs => ∃ fields : Array Field, P.underlying t = some (.struct fields) ∧ fields.toList.map (fun f => (f.offset, f.type)) = fs ∧ ∀ f ∈ fields.toList, (P.info? f.type).isSome = true
  | .array n e => P.underlying t = some (.array n e) ∧ (P.info? e).isSome = true
  | .map k e => P.underlying t = some (.map k e) ∧ P.underlying k = some (.int .i64) ∧ zeroShape P e = true
structure TIok (P : Program) (t : TypeId) (i : TI) : Prop where
  info : ∃ f, P.info? t = some f ∧ f.size = i.size ∧ f.bytes = i.bytes ∧ ∃ z, f.zero = some z ∧ ∀ S w β H, VLs S w β H i.zero z.cells.toList
  zl : i.zero.length = i.size
  desc : DescOk P t i
  eq : i.eq = true → P.keyTypeAt 12 t = true ∧ P.eqGuardType P.depth t = false
def TabOk (P : Program) (T : Tab) : Prop := ∀ t, (T.at_ t).d ≠ .unk → TIok P t (T.at_ t)

section
variable {T : Tab} {S : Nat → Prop} {w : World} {β : Nat → Cr} {H : Nat → Ob}
/-- Cells, as the value of a type. -/
theorem agg_of {t : TypeId} {l : List AV} {v : AV} {cs : List Value} (hv : VLs S w β H l cs) (ha : aggOf (T.at_ t) l = some v) :
    (∃ fs, (T.at_ t).d = .struct fs ∧ cs.length = (T.at_ t).size ∧ VL S w β H v [.agg cs.toArray]) ∨ (∃ n e, (T.at_ t).d = .array n e ∧ cs.length = (T.at_ t).size ∧ VL S w β H v [.agg cs.toArray]) ∨
    ∃ u, ((T.at_ t).d = .scalar ∨ (∃ e, (T.at_ t).d = .slice e) ∨ ∃ k e, (T.at_ t).d = .map k e) ∧ cs = [u] ∧ VL S w β H v [u] := by
  unfold aggOf at ha
  split at ha
  · rename_i fs hd
    split at ha
    · rename_i hl
      cases ha
      exact .inl ⟨fs, hd, by rw [VLs.length _ _ hv]; exact hl, cs, rfl, VLs.of_list _ _ hv⟩
    · cases ha
  · rename_i n e hd
    split at ha
    · rename_i hl
      cases ha
      exact .inr (.inl ⟨n, e, hd, by rw [VLs.length _ _ hv]; exact hl, cs, rfl, VLs.of_list _ _ hv⟩)
    · cases ha
  · cases ha
  · rename_i h1 h2 h3
    split at ha
    · cases ha
      obtain ⟨u, e, hu⟩ := VLs.one hv
      refine .inr (.inr ⟨u, ?_, e, hu⟩)
      cases hd : (T.at_ t).d with
      | unk => exact absurd hd h3
      | scalar => exact .inl rfl
      | slice e => exact .inr (.inl ⟨e, rfl⟩)
      | map k e => exact .inr (.inr ⟨k, e, rfl⟩)
      | struct fs => exact absurd hd (h1 fs)
      | array n e => exact absurd hd (h2 n e)
    · cases ha
end
section
variable {P : Program} {T : Tab} (hT : TabOk P T) {S : Nat → Prop} {w : World} {β : Nat → Cr} {H : Nat → Ob}
include hT
theorem run_sizeOf {t : TypeId} (hk : (T.at_ t).d ≠ .unk) (w : World) : (sizeOf t).run P w = .ok (T.at_ t).size w := by
  obtain ⟨f, h1, h2, _⟩ := (hT t hk).info
  simp [sizeOf, typeInfo, h1, h2]
theorem run_isAgg_yes {t : TypeId} {fs : List (Nat × TypeId)} (hd : (T.at_ t).d = .struct fs) (w : World) : (isAgg t).run P w = .ok true w := by
  have h := (hT t (by rw [hd]; simp)).desc
  unfold DescOk at h
  rw [hd] at h
  obtain ⟨fields, h1, _, _⟩ := h
  unfold isAgg
  rw [Sem.run_bind, run_underlying h1 w]
  rfl
theorem run_isAgg_arr {t : TypeId} {n : Nat} {e : TypeId} (hd : (T.at_ t).d = .array n e) (w : World) : (isAgg t).run P w = .ok true w := by
  have h := (hT t (by rw [hd]; simp)).desc
  unfold DescOk at h
  rw [hd] at h
  unfold isAgg
  rw [Sem.run_bind, run_underlying h.1 w]
  rfl
theorem run_isAgg_no {t : TypeId} (hd : (T.at_ t).d = .scalar ∨ (∃ e, (T.at_ t).d = .slice e) ∨ ∃ k e, (T.at_ t).d = .map k e) (w : World) : (isAgg t).run P w = .ok false w := by
  rcases hd with hd | ⟨e, hd⟩ | ⟨k, e, hd⟩
  · have h := (hT t (by rw [hd]; simp)).desc
    unfold DescOk at h
    rw [hd] at h
    obtain ⟨d, h1, h2, _⟩ := h
    unfold isAgg
    rw [Sem.run_bind, run_underlying h1 w]
    cases d <;> first | rfl | simp [notAgg] at h2
  · have h := (hT t (by rw [hd]; simp)).desc
    unfold DescOk at h
    rw [hd] at h
    unfold isAgg
    rw [Sem.run_bind, run_underlying h w]
    rfl
  · have h := (hT t (by rw [hd]; simp)).desc
    unfold DescOk at h
    rw [hd] at h
    unfold isAgg
    rw [Sem.run_bind, run_underlying h.1 w]
    rfl
theorem load_of {t : TypeId} {l : List AV} {v : AV} {cs : List Value} {ad : Addr} (hv : VLs S w β H l cs) (ha : aggOf (T.at_ t) l = some v) (hc : ∀ j u, cs[j]? = some u → w.cell? (ad.add j) = some u) :
    ∃ u, (loadVar t ad).run P w = .ok u w ∧ VL S w β H v [u] := by
  rcases agg_of hv ha with ⟨fs, hd, hl, hx⟩ | ⟨n, e, hd, hl, hx⟩ | ⟨u, hd, e, hx⟩
  · refine ⟨_, ?_, hx⟩
    have h1 := run_loadCells_list (P := P) w ad cs hc
    have h2 := run_sizeOf hT (t := t) (by rw [hd]; simp) w
    simp only [loadVar, Sem.run_bind, run_isAgg_yes hT hd w, Result.andThen_ok, if_true, h2, ← hl, h1]
    rfl
  · refine ⟨_, ?_, hx⟩
    have h1 := run_loadCells_list (P := P) w ad cs hc
    have h2 := run_sizeOf hT (t := t) (by rw [hd]; simp) w
    simp only [loadVar, Sem.run_bind, run_isAgg_arr hT hd w, Result.andThen_ok, if_true, h2, ← hl, h1]
    rfl
  · refine ⟨u, ?_, hx⟩
    have h1 : w.cell? ad = some u := by
      have := hc 0 u (by rw [e]; rfl)
      rwa [show ad.add 0 = ad by simp [Addr.add]] at this
    simp only [loadVar, Sem.run_bind, run_isAgg_no hT hd w, Result.andThen_ok, Bool.false_eq_true, if_false, run_load, h1]
/-- A part of a value's cells. -/
theorem part_of {t : TypeId} {l : List AV} {v : AV} {cs : Array Value} {o : Nat} (hv : VLs S w β H l (cs.toList)) (ha : aggOf (T.at_ t) (cut l o (T.at_ t).size) = some v) :
    ∃ u, (part t cs o).run P w = .ok u w ∧ VL S w β H v [u] := by
  have hv' : VLs S w β H (cut l o (T.at_ t).size) ((cs.toList.drop o).take (T.at_ t).size) := VLs.take _ _ _ (VLs.drop _ _ _ hv)
  have hex : cs.extract o (o + (T.at_ t).size) = ((cs.toList.drop o).take (T.at_ t).size).toArray := by
    apply Array.toList_inj.1
    simp [List.take_drop]
  rcases agg_of hv' ha with ⟨fs, hd, hl, hx⟩ | ⟨n, e, hd, hl, hx⟩ | ⟨u, hd, e, hx⟩
  · refine ⟨_, ?_, hx⟩
    have h2 := run_sizeOf hT (t := t) (by rw [hd]; simp) w
    simp only [part, Sem.run_bind, run_isAgg_yes hT hd w, Result.andThen_ok, if_true, h2, hex]
    rfl
  · refine ⟨_, ?_, hx⟩
    have h2 := run_sizeOf hT (t := t) (by rw [hd]; simp) w
    simp only [part, Sem.run_bind, run_isAgg_arr hT hd w, Result.andThen_ok, if_true, h2, hex]
    rfl
  · refine ⟨u, ?_, hx⟩
    have h1 : cs[o]? = some u := by
      have h := congrArg (·[0]?) e
      simp only [List.getElem?_cons_zero] at h
      rw [List.getElem?_take] at h
      split at h
      · simpa using h
      · cases h
    simp only [part, Sem.run_bind, run_isAgg_no hT hd w, Result.andThen_ok, Bool.false_eq_true, if_false, h1]
    rfl
/-- A value of a type, by its cells. -/
def Shape (T : Tab) (S : Nat → Prop) (w : World) (β : Nat → Cr) (H : Nat → Ob) (t : TypeId) (l : List AV) (a : Value) : Prop := match (T.at_ t).d with
  | .struct _ => ∃ cs : Array Value, a = .agg cs ∧ VLs S w β H l cs.toList
  | .array _ _ => ∃ cs : Array Value, a = .agg cs ∧ VLs S w β H l cs.toList
  | .scalar => VLs S w β H l [a]
  | _ => False
theorem part_shape {t : TypeId} {l : List AV} {cs : Array Value} {o : Nat} (hv : VLs S w β H l cs.toList) (hd : (T.at_ t).d.isAgg = true ∨ ((T.at_ t).d = .scalar ∧ ∃ x, cut l o (T.at_ t).size = [x])) :
    ∃ u, (part t cs o).run P w = .ok u w ∧ Shape T S w β H t (cut l o (T.at_ t).size) u := by
  have hv' : VLs S w β H (cut l o (T.at_ t).size) ((cs.toList.drop o).take (T.at_ t).size) := VLs.take _ _ _ (VLs.drop _ _ _ hv)
  have hex : cs.extract o (o + (T.at_ t).size) = ((cs.toList.drop o).take (T.at_ t).size).toArray := by
    apply Array.toList_inj.1
    simp [List.take_drop]
  unfold Shape
  cases hdd : (T.at_ t).d with
  | unk => rw [hdd] at hd; rcases hd with hd | ⟨hd, _⟩ <;> cases hd
  | slice e => rw [hdd] at hd; rcases hd with hd | ⟨hd, _⟩ <;> cases hd
  | map k e => rw [hdd] at hd; rcases hd with hd | ⟨hd, _⟩ <;> cases hd
  | struct fs =>
    refine ⟨_, ?_, _, rfl, hv'⟩
    have h2 := run_sizeOf hT (t := t) (by rw [hdd]; simp) w
    simp only [part, Sem.run_bind, run_isAgg_yes hT hdd w, Result.andThen_ok, if_true, h2, hex]
    rfl
  | array n e =>
    refine ⟨_, ?_, _, rfl, hv'⟩
    have h2 := run_sizeOf hT (t := t) (by rw [hdd]; simp) w
    simp only [part, Sem.run_bind, run_isAgg_arr hT hdd w, Result.andThen_ok, if_true, h2, hex]
    rfl
  | scalar =>
    rw [hdd] at hd
    rcases hd with hd | ⟨_, x, hx⟩
    · cases hd
    · rw [hx] at hv'
      obtain ⟨u, e, hu⟩ := VLs.one hv'
      refine ⟨u, ?_, by rw [hx]; exact VLs.mk1 hu⟩
      have h1 : cs[o]? = some u := by
        have h := congrArg (·[0]?) e
        simp only [List.getElem?_cons_zero] at h
        rw [List.getElem?_take] at h
        split at h
        · simpa using h
        · cases h
      simp only [part, Sem.run_bind, run_isAgg_no hT (.inl hdd) w, Result.andThen_ok, Bool.false_eq_true, if_false, h1]
      rfl
omit hT in
theorem scalar_one {ty : Option Ty} {l1 l2 : List AV} {r : Bool} (h : scalarEq ty l1 l2 = some r) : (∃ x, l1 = [x]) ∧ ∃ x, l2 = [x] := by
  unfold scalarEq at h
  split at h <;> first | exact ⟨⟨_, rfl⟩, ⟨_, rfl⟩⟩ | cases h
omit hT in
theorem eqA_kind {f : Nat} {t : TypeId} {l1 l2 : List AV} {r : Bool} (h : eqA T f t l1 l2 = some r) : ((T.at_ t).d.isAgg = true ∨ ((T.at_ t).d = .scalar ∧ ∃ x, l1 = [x])) ∧ ((T.at_ t).d.isAgg = true ∨ ((T.at_ t).d = .scalar ∧ ∃ x, l2 = [x])) := by
  cases f with
  | zero => cases h
  | succ f =>
    unfold eqA at h
    split at h
    · rename_i hd
      exact ⟨.inr ⟨hd, (scalar_one h).1⟩, .inr ⟨hd, (scalar_one h).2⟩⟩
    · rename_i fs hd; rw [hd]; exact ⟨.inl rfl, .inl rfl⟩
    · rename_i n e hd; rw [hd]; exact ⟨.inl rfl, .inl rfl⟩
    · cases h
omit hT in
theorem andO_spec {a b : Option Bool} {r : Bool} (h : andO a b = some r) : ∃ x y, a = some x ∧ b = some y ∧ r = (x && y) := by
  unfold andO at h
  split at h
  · cases h; exact ⟨_, _, rfl, rfl, rfl⟩
  · cases h
theorem eqFs_sound {f m d : Nat} {l1 l2 : List AV} {xs ys : Array Value} (hx : VLs S w β H l1 xs.toList) (hy : VLs S w β H l2 ys.toList)
    (ih : ∀ (t : TypeId) (l1 l2 : List AV) (a b : Value) (r : Bool), eqA T f t l1 l2 = some r → P.keyTypeAt m t = true → Shape T S w β H t l1 a → Shape T S w β H t l2 b → (Op.equalIn d t a b).run P w = .ok r w) :
    ∀ (fl : List Field) (r : Bool), eqFs (eqA T f) T l1 l2 (fl.map fun g => (g.offset, g.type)) = some r → (∀ g ∈ fl, g.name ≠ "_" ∧ P.keyTypeAt m g.type = true) → (Op.eqFields d xs ys fl).run P w = .ok r w
  | [], r, h, _ => by
    simp only [List.map_nil, eqFs, Option.some.injEq] at h
    subst h
    simp [Op.eqFields]
  | g :: fl, r, h, hg => by
    simp only [List.map_cons, eqFs] at h
    obtain ⟨x, y, h1, h2, rfl⟩ := andO_spec h
    obtain ⟨hn, hk⟩ := hg g (by simp)
    obtain ⟨q1, q2⟩ := eqA_kind h1
    obtain ⟨u, p1, s1⟩ := part_shape hT hx q1
    obtain ⟨v, p2, s2⟩ := part_shape hT hy q2
    have h3 := ih g.type _ _ u v x h1 hk s1 s2
    have h4 := eqFs_sound hx hy ih fl y h2 (fun g' hg' => hg g' (by simp [hg']))
    simp only [Op.eqFields, if_pos hn, Sem.run_bind, p1, p2, h3, Result.andThen_ok]
    cases x
    · simp
    · simpa using h4
theorem eqIs_sound {f m d : Nat} {e : TypeId} {l1 l2 : List AV} {xs ys : Array Value} (hx : VLs S w β H l1 xs.toList) (hy : VLs S w β H l2 ys.toList) (hk : P.keyTypeAt m e = true)
    (ih : ∀ (t : TypeId) (l1 l2 : List AV) (a b : Value) (r : Bool), eqA T f t l1 l2 = some r → P.keyTypeAt m t = true → Shape T S w β H t l1 a → Shape T S w β H t l2 b → (Op.equalIn d t a b).run P w = .ok r w) :
    ∀ (is : List Nat) (r : Bool), eqIs (eqA T f) e (T.at_ e).size l1 l2 is = some r → (Op.eqItems d e (P.cellsOf e) xs ys is).run P w = .ok r w
  | [], r, h => by
    simp only [eqIs, Option.some.injEq] at h
    subst h
    simp [Op.eqItems]
  | i :: is, r, h => by
    simp only [eqIs] at h
    obtain ⟨x, y, h1, h2, rfl⟩ := andO_spec h
    obtain ⟨q1, q2⟩ := eqA_kind h1
    have hu : (T.at_ e).d ≠ .unk := by
      intro hd
      rw [hd] at q1
      rcases q1 with q | ⟨q, _⟩ <;> cases q
    have hc : P.cellsOf e = (T.at_ e).size := by
      obtain ⟨inf, g1, g2, _⟩ := (hT e hu).info
      simp [Program.cellsOf, g1, g2]
    obtain ⟨u, p1, s1⟩ := part_shape hT hx q1
    obtain ⟨v, p2, s2⟩ := part_shape hT hy q2
    have h3 := ih e _ _ u v x h1 hk s1 s2
    have h4 := eqIs_sound hx hy hk ih is y h2
    rw [hc] at h4 ⊢
    simp only [Op.eqItems, Sem.run_bind, p1, p2, h3, Result.andThen_ok]
    cases x
    · simp
    · simpa using h4
theorem eqA_sound : ∀ (f : Nat) (m : Nat) (t : TypeId) (l1 l2 : List AV) (a b : Value) (r : Bool) (d : Nat), eqA T f t l1 l2 = some r → P.keyTypeAt m t = true → Shape T S w β H t l1 a → Shape T S w β H t l2 b →
    (Op.equalIn (d + f) t a b).run P w = .ok r w
  | 0, _, _, _, _, _, _, _, _, h, _, _, _ => by cases h
  | f + 1, 0, _, _, _, _, _, _, _, _, hk, _, _ => by simp [Program.keyTypeAt] at hk
  | f + 1, m + 1, t, l1, l2, a, b, r, d, h, hk, ha, hb => by
    unfold eqA at h
    unfold Program.keyTypeAt at hk
    rw [show d + (f + 1) = (d + f) + 1 by omega]
    split at h
    · rename_i hd
      have hdesc := (hT t (by rw [hd]; simp)).desc
      unfold DescOk at hdesc
      rw [hd] at hdesc
      obtain ⟨dd, h1, _, k1, k2, k3, _⟩ := hdesc
      simp only [Shape, hd] at ha hb
      unfold scalarEq at h
      split at h
      · rename_i k0 k a' k' b' hty
        split at h
        · rename_i hkk
          subst hkk
          cases h
          obtain ⟨u, e1, hu⟩ := VLs.one ha
          obtain ⟨v, e2, hv⟩ := VLs.one hb
          cases e1
          cases e2
          obtain ⟨_, q, hu⟩ := hu
          cases q
          obtain ⟨_, q, hv⟩ := hv
          cases q
          rw [show a = _ from hu, show b = _ from hv]
          exact run_equalIn_int w _ t _ _ _ _ (by rw [h1, k1 k0 hty])
        · cases h
      · rename_i a' b' hty
        cases h
        obtain ⟨u, e1, hu⟩ := VLs.one ha
        obtain ⟨v, e2, hv⟩ := VLs.one hb
        cases e1
        cases e2
        obtain ⟨_, q, hu⟩ := hu
        cases q
        obtain ⟨_, q, hv⟩ := hv
        cases q
        rw [show a = _ from hu, show b = _ from hv]
        exact run_equalIn_bool' w _ t _ _ (by rw [h1, k2 hty])
      · rename_i a' b' hty
        cases h
        obtain ⟨u, e1, hu⟩ := VLs.one ha
        obtain ⟨v, e2, hv⟩ := VLs.one hb
        cases e1
        cases e2
        obtain ⟨_, q, hu⟩ := hu
        cases q
        obtain ⟨_, q, hv⟩ := hv
        cases q
        rw [show a = _ from hu, show b = _ from hv]
        have hu' : P.underlying t = some .string := by rw [h1, k3 hty]
        simp [Op.equalIn, run_underlying hu']
      · cases h
    · rename_i fs hd
      have hdesc := (hT t (by rw [hd]; simp)).desc
      unfold DescOk at hdesc
      rw [hd] at hdesc
      obtain ⟨fields, h1, h2, _⟩ := hdesc
      simp only [Shape, hd] at ha hb
      obtain ⟨xs, rfl, hx⟩ := ha
      obtain ⟨ys, rfl, hy⟩ := hb
      simp only [h1, Bool.and_eq_true, Bool.not_eq_true'] at hk
      have hf : P.fieldsOf t = fields := by simp [Program.fieldsOf, h1]
      rw [run_equalIn_struct (P := P) w (d + f) t xs ys (by rw [hf]; exact h1) hk.2, hf]
      refine eqFs_sound hT (f := f) (m := m) hx hy (fun t' l1' l2' a' b' r' q1 q2 q3 q4 => eqA_sound f m t' l1' l2' a' b' r' d q1 q2 q3 q4) fields.toList r (by rw [h2]; exact h) ?_
      intro g hg
      have := Array.all_eq_true_iff_forall_mem.1 hk.1.1 g (Array.mem_toList_iff.1 hg)
      simpa [Bool.and_eq_true] using this
    · rename_i n e hd
      have hdesc := (hT t (by rw [hd]; simp)).desc
      unfold DescOk at hdesc
      rw [hd] at hdesc
      obtain ⟨h1, h2⟩ := hdesc
      simp only [Shape, hd] at ha hb
      obtain ⟨xs, rfl, hx⟩ := ha
      obtain ⟨ys, rfl, hy⟩ := hb
      simp only [h1] at hk
      obtain ⟨i, hi⟩ := Option.isSome_iff_exists.1 h2
      rw [run_equalIn_array w (d + f) xs ys h1 hi]
      exact eqIs_sound hT (f := f) (m := m) hx hy hk (fun t' l1' l2' a' b' r' q1 q2 q3 q4 => eqA_sound f m t' l1' l2' a' b' r' d q1 q2 q3 q4) (List.range n) r h
    · cases h
end
end Go.Proofs.Ytkpjcmiijlpcaaa.Aw
