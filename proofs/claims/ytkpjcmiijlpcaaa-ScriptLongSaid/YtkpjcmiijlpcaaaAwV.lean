/- An abstract program logic over the model, twenty-second part: a table of types, made out of the program. -/
import Derived.Test.YtkpjcmiijlpcaaaAwU
namespace Go.Proofs.Ytkpjcmiijlpcaaa.Aw
open Go

def tyOf (P : Program) : Nat → TypeId → Option Ty
  | 0, _ => none
  | f + 1, t => match P.underlying t with
    | some (.int k) => some (.int k)
    | some .bool => some .bool
    | some .string => some .str
    | some (.slice e) => (tyOf P f e).map (.list e)
    | some (.array n e) => (tyOf P f e).bind fun x => (List.replicate n x).foldr (fun a b => match b with
        | none => some a
        | some b => some (.pair a b)) none
    | some (.struct fs) => bif fs.size == 0 then some .unit else fs.toList.foldr (fun a b => match tyOf P f a.type, b with
        | some a, some none => some (some a)
        | some a, some (some b) => some (some (.pair a b))
        | _, _ => none) (some none) |>.bind fun x => x
    | _ => none
def zeroT (P : Program) : Nat → TypeId → List AV
  | 0, _ => [.undef]
  | f + 1, t => match P.underlying t with
    | some (.int k) => [.int k 0]
    | some .bool => [.bool false]
    | some .string => [.str ⟨#[]⟩]
    | some (.slice e) => match tyOf P f e with
      | some x => [.nils e x]
      | none => [.nil0]
    | some (.array n e) => (List.replicate n (zeroT P f e)).flatten
    | some (.struct fs) => fs.toList.flatMap fun a => zeroT P f a.type
    | some (.func _ _ _) => [.nilf]
    | some (.pointer _) => [.nilp]
    | some (.interface _) => [.nili]
    | _ => [.undef]
def zeroOk : List AV → List Value → Bool
  | [], [] => true
  | .int k n :: l, .int k' n' :: m => k == k' && n == n' && zeroOk l m
  | .bool b :: l, .bool b' :: m => b == b' && zeroOk l m
  | .str s :: l, .string s' :: m => decide (s = s') && zeroOk l m
  | .nilp :: l, .pointer none :: m => zeroOk l m
  | .nilf :: l, .nilFunc :: m => zeroOk l m
  | .nili :: l, .nilIface :: m => zeroOk l m
  | .nil0 :: l, .slice none 0 0 :: m => zeroOk l m
  | .nils _ _ :: l, .slice none 0 0 :: m => zeroOk l m
  | .undef :: l, _ :: m => zeroOk l m
  | _, _ => false
def eqOk (P : Program) (t : TypeId) : Bool := P.keyTypeAt 12 t && !P.eqGuardType P.depth t
theorem eqOk_spec {P : Program} {t : TypeId} (h : eqOk P t = true) : P.keyTypeAt 12 t = true ∧ P.eqGuardType P.depth t = false := by
  simpa [eqOk] using h
def tiOf (P : Program) (t : TypeId) : TI := match P.info? t with
  | none => TI.unk
  | some f => match f.zero with
    | none => TI.unk
    | some z =>
      let zs := zeroT P 20 t
      bif zeroOk zs z.cells.toList && (zs.length == f.size) then
        match P.underlying t with
        | some (.slice e) => ⟨.slice e, f.size, f.bytes, zs, tyOf P 20 t, eqOk P t⟩
        | some (.struct fs) => bif fs.toList.all fun a => (P.info? a.type).isSome then ⟨.struct (fs.toList.map fun a => (a.offset, a.type)), f.size, f.bytes, zs, tyOf P 20 t, eqOk P t⟩ else TI.unk
        | some (.array n e) => bif (P.info? e).isSome then ⟨.array n e, f.size, f.bytes, zs, tyOf P 20 t, eqOk P t⟩ else TI.unk
        | some (.int k) => ⟨.scalar, f.size, f.bytes, zs, some (.int k), eqOk P t⟩
        | some .bool => ⟨.scalar, f.size, f.bytes, zs, some .bool, eqOk P t⟩
        | some .string => ⟨.scalar, f.size, f.bytes, zs, some .str, eqOk P t⟩
        | some (.map k e) => match P.underlying k with
          | some (.int .i64) => bif zeroShape P e then ⟨.map k e, f.size, f.bytes, zs, none, eqOk P t⟩ else TI.unk
          | _ => TI.unk
        | some (.func _ _ _) => ⟨.scalar, f.size, f.bytes, zs, none, eqOk P t⟩
        | some (.pointer _) => ⟨.scalar, f.size, f.bytes, zs, none, eqOk P t⟩
        | some (.interface _) => ⟨.scalar, f.size, f.bytes, zs, none, eqOk P t⟩
        | _ => TI.unk
      else TI.unk
def tabOf (P : Program) (ts : List TypeId) : Tab := ts.map fun t => (t, tiOf P t)
theorem zeroOk_spec : ∀ (l : List AV) (m : List Value), zeroOk l m = true → ∀ S w β H, VLs S w β H l m := by
  intro l m h S w β H
  fun_induction zeroOk l m <;> try simp only [Bool.and_eq_true, beq_iff_eq, decide_eq_true_eq] at h
  · exact rfl
  · rename_i ih; exact ⟨_, _, rfl, ⟨_, rfl, by rw [h.1.1, h.1.2]; exact rfl⟩, ih h.2⟩
  · rename_i ih; exact ⟨_, _, rfl, ⟨_, rfl, by rw [h.1]; exact rfl⟩, ih h.2⟩
  · rename_i ih; exact ⟨_, _, rfl, ⟨_, rfl, by rw [h.1]; exact rfl⟩, ih h.2⟩
  · rename_i ih; exact ⟨_, _, rfl, ⟨_, rfl, rfl⟩, ih h⟩
  · rename_i ih; exact ⟨_, _, rfl, ⟨_, rfl, rfl⟩, ih h⟩
  · rename_i ih; exact ⟨_, _, rfl, ⟨_, rfl, rfl⟩, ih h⟩
  · rename_i ih; exact ⟨_, _, rfl, ⟨_, rfl, rfl⟩, ih h⟩
  · rename_i ih; exact ⟨_, _, rfl, ⟨_, rfl, rfl⟩, ih h⟩
  · rename_i ih; exact ⟨_, _, rfl, ⟨_, rfl, trivial⟩, ih h⟩
  · cases h
theorem tiOf_ok (P : Program) (t : TypeId) (hk : (tiOf P t).d ≠ .unk) : TIok P t (tiOf P t) := by
  unfold tiOf at hk ⊢
  cases hf : P.info? t with
  | none => simp only [hf] at hk; exact absurd rfl hk
  | some f =>
    simp only [hf] at hk ⊢
    cases hz : f.zero with
    | none => simp only [hz] at hk; exact absurd rfl hk
    | some z =>
      simp only [hz] at hk ⊢
      cases hc : (zeroOk (zeroT P 20 t) z.cells.toList && ((zeroT P 20 t).length == f.size)) with
      | false => simp only [hc, cond_false] at hk; exact absurd rfl hk
      | true =>
        simp only [hc, cond_true] at hk ⊢
        simp only [Bool.and_eq_true, beq_iff_eq] at hc
        have hzs := zeroOk_spec _ _ hc.1
        cases hu : P.underlying t with
        | none => simp only [hu] at hk; exact absurd rfl hk
        | some d =>
          simp only [hu] at hk ⊢
          cases d <;> simp only at hk ⊢ <;> try exact absurd rfl hk
          case slice e => exact ⟨⟨f, hf, rfl, rfl, z, hz, hzs⟩, hc.2, hu, eqOk_spec⟩
          case bool => exact ⟨⟨f, hf, rfl, rfl, z, hz, hzs⟩, hc.2, ⟨_, hu, rfl, fun k h => by simp at h, fun _ => rfl, fun h => by simp at h, fun h => by simp [zeroT, hu] at h⟩, eqOk_spec⟩
          case int k => exact ⟨⟨f, hf, rfl, rfl, z, hz, hzs⟩, hc.2, ⟨_, hu, rfl, fun k h => by simp at h; rw [h], fun h => by simp at h, fun h => by simp at h, fun h => by simp [zeroT, hu] at h⟩, eqOk_spec⟩
          case string => exact ⟨⟨f, hf, rfl, rfl, z, hz, hzs⟩, hc.2, ⟨_, hu, rfl, fun k h => by simp at h, fun h => by simp at h, fun _ => rfl, fun h => by simp [zeroT, hu] at h⟩, eqOk_spec⟩
          case func => exact ⟨⟨f, hf, rfl, rfl, z, hz, hzs⟩, hc.2, ⟨_, hu, rfl, fun k h => by simp at h, fun h => by simp at h, fun h => by simp at h, fun h => by simp [zeroT, hu] at h⟩, eqOk_spec⟩
          case pointer => exact ⟨⟨f, hf, rfl, rfl, z, hz, hzs⟩, hc.2, ⟨_, hu, rfl, fun k h => by simp at h, fun h => by simp at h, fun h => by simp at h, fun _ => ⟨_, rfl⟩⟩, eqOk_spec⟩
          case interface => exact ⟨⟨f, hf, rfl, rfl, z, hz, hzs⟩, hc.2, ⟨_, hu, rfl, fun k h => by simp at h, fun h => by simp at h, fun h => by simp at h, fun h => by simp [zeroT, hu] at h⟩, eqOk_spec⟩
          case map k e =>
            split at hk
            · rename_i hki
              cases hzs2 : zeroShape P e with
              | false => rw [hzs2] at hk; exact absurd rfl hk
              | true => simp only [hki, hzs2, cond_true]; exact ⟨⟨f, hf, rfl, rfl, z, hz, hzs⟩, hc.2, ⟨hu, hki, hzs2⟩, eqOk_spec⟩
            · exact absurd rfl hk
          case struct fs =>
            cases hall : fs.toList.all fun a => (P.info? a.type).isSome with
            | false => rw [hall] at hk; exact absurd rfl hk
            | true => exact ⟨⟨f, hf, rfl, rfl, z, hz, hzs⟩, hc.2, ⟨fs, hu, rfl, fun g hg => List.all_eq_true.1 hall g hg⟩, eqOk_spec⟩
          case array n e =>
            cases he : (P.info? e).isSome with
            | false => rw [he] at hk; exact absurd rfl hk
            | true => exact ⟨⟨f, hf, rfl, rfl, z, hz, hzs⟩, hc.2, ⟨hu, he⟩, eqOk_spec⟩
theorem lookup_tab (P : Program) (t : TypeId) : ∀ ts : List TypeId, (tabOf P ts).lookup t = none ∨ (tabOf P ts).lookup t = some (tiOf P t)
  | [] => .inl rfl
  | x :: ts => by
    simp only [tabOf, List.map_cons, List.lookup]
    cases e : t == x with
    | true => have e : t = x := by simpa using e
              subst e; exact .inr rfl
    | false => exact lookup_tab P t ts
theorem tabOf_ok (P : Program) (ts : List TypeId) : TabOk P (tabOf P ts) := by
  intro t hk
  unfold Tab.at_ at hk ⊢
  rcases lookup_tab P t ts with h | h
  · rw [h] at hk; exact absurd rfl hk
  · rw [h] at hk ⊢; exact tiOf_ok P t hk
end Go.Proofs.Ytkpjcmiijlpcaaa.Aw
