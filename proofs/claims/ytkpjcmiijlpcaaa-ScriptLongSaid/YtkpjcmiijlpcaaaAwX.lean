/- An abstract program logic over the model, twenty-fourth part: what a law is given, as data. -/
import Derived.Test.YtkpjcmiijlpcaaaAwW
import Derived.OpenShut
import Derived.ChangeArms
namespace Go.Proofs.Ytkpjcmiijlpcaaa.Aw
open Go

def fieldsOk (ok : TypeId → Ty → Bool) (P : Program) : List Field → Nat → Ty → Bool
  | [f], off, ty => f.offset == off && ok f.type ty && P.cellsOf f.type == ty.size
  | f :: l, off, .pair a b => f.offset == off && ok f.type a && P.cellsOf f.type == a.size && fieldsOk ok P l (off + a.size) b
  | _, _, _ => false
def elemsOk (ok : TypeId → Ty → Bool) (P : Program) (e : TypeId) : Nat → Ty → Bool
  | 1, ty => ok e ty && P.cellsOf e == ty.size
  | n + 2, .pair a b => ok e a && P.cellsOf e == a.size && elemsOk ok P e (n + 1) b
  | _, _ => false
/-- A type is what a code says, cell by cell. -/
def shapeOk (P : Program) : Nat → TypeId → Ty → Bool
  | 0, _, _ => false
  | n + 1, t, ty => match P.underlying t with
    | some (.int k) => match ty with
      | .int k' => k == k'
      | _ => false
    | some .bool => match ty with
      | .bool => true
      | _ => false
    | some .string => match ty with
      | .str => true
      | _ => false
    | some (.slice e) => match ty with
      | .list _ x => shapeOk P n e x && P.cellsOf e == x.size
      | _ => false
    | some (.struct fs) => fieldsOk (shapeOk P n) P fs.toList 0 ty && P.cellsOf t == ty.size
    | some (.array m e) => elemsOk (shapeOk P n) P e m ty && P.cellsOf t == ty.size
    | _ => false
/-- What data of a type keep to. -/
def OkD : (t : Ty) → t.den → Prop
  | .int k, x => (Lit.int k x).wf = true
  | .bool, _ => True
  | .str, s => s.size ≤ maxLen
  | .list _ t, xs => xs.length ≤ maxLen ∧ ∀ x ∈ xs, OkD t x
  | .pair a b, x => OkD a x.1 ∧ OkD b x.2
  | .unit, _ => True
  | .ol _ _, _ => True
section
variable {H : Type} {enc : TypeId × Value → H} {P : Program} {w : World} {base : Nat} {spare : Nat → Bool} {held : Bool}
abbrev allOf (w : World) : Nat → Prop := fun b => b < w.heap.size
theorem cells_get {a : Addr} {n : Nat} {cs : List Value} (h : w.cells? base a n = some cs) : cs.length = n ∧ ∀ j u, cs[j]? = some u → w.cell? (a.add j) = some u := by
  unfold World.cells? at h
  split at h
  · have hl : cs.length = n := by simpa using mapM_some_length h
    refine ⟨hl, fun j u hj => ?_⟩
    have hlt : j < n := by rw [← hl]; exact (List.getElem?_eq_some_iff.1 hj).1
    have := mapM_some_get h j j (by simp [hlt])
    rw [this, hj]
  · cases h
theorem fields_dr {m : Nat} {cs : List Value} {ok : TypeId → Ty → Bool} (ih : ∀ t ty, ok t ty = true → ∀ cs x, DataW.trod enc P w base spare held m t cs = some x → ∃ v : ty.den, DR (allOf w) w ty v cs ∧ OkD ty v) :
    ∀ (l : List Field) (off : Nat) (ty : Ty) (xs : List (DataW H × List MemPlace)), fieldsOk ok P l off ty = true → xs.length = l.length →
      (∀ (i : Nat) (f : Field), l[i]? = some f → DataW.trod enc P w base spare held m f.type ((cs.drop f.offset).take (P.cellsOf f.type)) = xs[i]?) → ∃ v : ty.den, DR (allOf w) w ty v ((cs.drop off).take ty.size) ∧ OkD ty v
  | [], _, _, _, h, _, _ => by simp [fieldsOk] at h
  | [f], off, ty, xs, h, hl, hx => by
    simp only [fieldsOk, Bool.and_eq_true, beq_iff_eq] at h
    obtain ⟨⟨h1, h2⟩, h3⟩ := h
    have h0 := hx 0 f rfl
    match xs, hl with
    | [x], _ =>
      rw [h1, h3] at h0
      exact ih f.type ty h2 _ x h0
  | f :: g :: l, off, ty, xs, h, hl, hx => by
    cases ty with
    | pair a b =>
      simp only [fieldsOk, Bool.and_eq_true, beq_iff_eq] at h
      obtain ⟨⟨⟨h1, h2⟩, h3⟩, h4⟩ := h
      match xs, hl with
      | x :: xs, hl =>
        have h0 := hx 0 f rfl
        rw [h1, h3] at h0
        obtain ⟨v, g1, g2⟩ := ih f.type a h2 _ x h0
        obtain ⟨u, k1, k2⟩ := fields_dr ih (g :: l) (off + a.size) b xs h4 (by simpa using hl) (fun i f' hi => by have := hx (i + 1) f' (by simpa using hi); simpa using this)
        refine ⟨(v, u), ⟨_, _, ?_, g1, k1⟩, g2, k2⟩
        show (cs.drop off).take (a.size + b.size) = _
        rw [List.take_add, List.drop_drop]
    | _ => simp [fieldsOk] at h
theorem elems_dr {m : Nat} {e : TypeId} {cs : List Value} {ok : TypeId → Ty → Bool} (ih : ∀ t ty, ok t ty = true → ∀ cs x, DataW.trod enc P w base spare held m t cs = some x → ∃ v : ty.den, DR (allOf w) w ty v cs ∧ OkD ty v) :
    ∀ (n : Nat) (k : Nat) (ty : Ty), elemsOk ok P e n ty = true → (∀ i, i < n → ∃ x, DataW.trod enc P w base spare held m e ((cs.drop ((k + i) * P.cellsOf e)).take (P.cellsOf e)) = some x) → ∃ v : ty.den, DR (allOf w) w ty v ((cs.drop (k * P.cellsOf e)).take ty.size) ∧ OkD ty v
  | 0, _, _, h, _ => by simp [elemsOk] at h
  | 1, k, ty, h, hx => by
    simp only [elemsOk, Bool.and_eq_true, beq_iff_eq] at h
    obtain ⟨x, h0⟩ := hx 0 (by omega)
    rw [Nat.add_zero] at h0
    rw [← h.2]
    exact ih e ty h.1 _ x h0
  | n + 2, k, ty, h, hx => by
    cases ty with
    | pair a b =>
      simp only [elemsOk, Bool.and_eq_true, beq_iff_eq] at h
      obtain ⟨⟨h2, h3⟩, h4⟩ := h
      obtain ⟨x, h0⟩ := hx 0 (by omega)
      rw [Nat.add_zero] at h0
      obtain ⟨v, g1, g2⟩ := ih e a h2 _ x h0
      obtain ⟨u, k1, k2⟩ := elems_dr ih (n + 1) (k + 1) b h4 (fun i hi => by have := hx (i + 1) (by omega); rwa [show k + (i + 1) = k + 1 + i by omega] at this)
      refine ⟨(v, u), ⟨_, _, ?_, g1, k1⟩, g2, k2⟩
      show (cs.drop (k * P.cellsOf e)).take (a.size + b.size) = _
      rw [List.take_add, List.drop_drop, h3, show k * a.size + a.size = (k + 1) * a.size by rw [Nat.add_mul]; omega]
    | _ => simp [elemsOk] at h
theorem trod_dr : ∀ (n : Nat) (t : TypeId) (ty : Ty), shapeOk P n t ty = true → ∀ (fuel : Nat) (cs : List Value) (x : DataW H × List MemPlace), DataW.trod enc P w base spare held fuel t cs = some x → ∃ v : ty.den, DR (allOf w) w ty v cs ∧ OkD ty v
  | 0, _, _, h, _, _, _, _ => by simp [shapeOk] at h
  | n + 1, t, ty, h, fuel, cs, x, hx => by
    unfold shapeOk at h
    split at h
    · rename_i k hu
      cases ty <;> simp only [beq_iff_eq] at h <;> try cases h
      obtain ⟨m, rfl, _, hw⟩ := DataW.trod_int hu hx
      exact ⟨m, rfl, hw⟩
    · rename_i hu
      cases ty <;> simp only at h <;> try cases h
      obtain ⟨b, rfl, _⟩ := DataW.trod_bool hu hx
      exact ⟨b, rfl, trivial⟩
    · rename_i hu
      cases ty <;> simp only at h <;> try cases h
      obtain ⟨s, rfl, _, hs⟩ := DataW.trod_string hu hx
      exact ⟨s, rfl, hs⟩
    · rename_i e hu
      cases ty with
      | list e' ty =>
        simp only [Bool.and_eq_true, beq_iff_eq] at h
        rcases DataW.trod_slice hu hx with ⟨rfl, _⟩ | ⟨a, len, cap, elems, rest, m, rfl, rfl, _, hb, hl, hm, hlen, hel, _⟩
        · exact ⟨[], ⟨none, 0, 0, [], rfl, rfl, Nat.le_refl _, rfl, fun j u hj => by simp at hj, fun _ => rfl⟩, by simp [OkD]⟩
        · have key : ∀ k, k ≤ len → ∃ (xs : List ty.den) (es : List Value), xs.length = k ∧ Cat (DR (allOf w) w ty) xs es ∧ (∀ j u, es[j]? = some u → w.cell? (a.add j) = some u) ∧ ∀ y ∈ xs, OkD ty y := by
            intro k
            induction k with
            | zero => exact fun _ => ⟨[], [], rfl, rfl, fun j u hj => by simp at hj, fun y hy => by simp at hy⟩
            | succ k ihk =>
              intro hk
              obtain ⟨xs, es, q1, q2, q3, q4⟩ := ihk (by omega)
              have hk' := hel k (by omega)
              rw [List.getElem?_eq_getElem (by omega), Option.bind_eq_some_iff] at hk'
              obtain ⟨ds, hd1, hd2⟩ := hk'
              obtain ⟨v, g1, g2⟩ := trod_dr n e ty h.1 m ds _ hd2
              obtain ⟨c1, c2⟩ := cells_get hd1
              have hes := Cat.length (DR.length ty) _ _ q2
              refine ⟨xs ++ [v], es ++ ds, by simp [q1], Cat.append _ _ _ _ q2 ⟨ds, [], by simp, g1, rfl⟩, fun j u hj => ?_, fun y hy => ?_⟩
              · by_cases hj2 : j < es.length
                · rw [List.getElem?_append_left hj2] at hj
                  exact q3 j u hj
                · rw [List.getElem?_append_right (by omega)] at hj
                  have := c2 _ u hj
                  rw [add_add, h.2] at this
                  rwa [show k * ty.size + (j - es.length) = j by rw [hes, q1]; rw [hes, q1] at hj2; omega] at this
              · rcases List.mem_append.1 hy with hy | hy
                · exact q4 y hy
                · simp at hy; subst hy; exact g2
          obtain ⟨xs, es, q1, q2, q3, q4⟩ := key len (Nat.le_refl _)
          refine ⟨xs, ⟨some a, len, cap, es, rfl, q1.symm, hl, q2, fun j u hj => ⟨a, rfl, ?_, q3 j u hj⟩, fun h => by cases h⟩, by show xs.length ≤ maxLen; omega, q4⟩
          have := World.block_lt_of_cell? w _ (q3 j u hj)
          rwa [show (a.add j).block = a.block by unfold Addr.add; split <;> rfl] at this
      | _ => simp at h
    · rename_i fs hu
      simp only [Bool.and_eq_true, beq_iff_eq] at h
      obtain ⟨xs, m, rfl, _, hl, hlx, hf⟩ := DataW.trod_struct hu hx
      have := fields_dr (cs := cs) (m := m) (ok := shapeOk P n) (fun t ty hok cs x hh => trod_dr n t ty hok m cs x hh) fs.toList 0 ty xs h.1 (by simpa using hlx) (fun i f hi => hf i f (by simpa using hi))
      rw [List.drop_zero, List.take_of_length_le (by rw [hl, h.2]; exact Nat.le_refl _)] at this
      exact this
    · rename_i k e hu
      simp only [Bool.and_eq_true, beq_iff_eq] at h
      obtain ⟨xs, m, rfl, _, hl, hlx, hf⟩ := DataW.trod_array hu hx
      have := elems_dr (cs := cs) (m := m) (ok := shapeOk P n) (fun t ty hok cs x hh => trod_dr n t ty hok m cs x hh) k 0 ty h.1 (fun i hi => by
        rw [Nat.zero_add]
        exact ⟨xs[i], by rw [hf i hi]; exact List.getElem?_eq_getElem (by omega)⟩)
      rw [Nat.zero_mul, List.drop_zero, List.take_of_length_le (by rw [hl, h.2]; exact Nat.le_refl _)] at this
      exact this
    · cases h
end
end Go.Proofs.Ytkpjcmiijlpcaaa.Aw
