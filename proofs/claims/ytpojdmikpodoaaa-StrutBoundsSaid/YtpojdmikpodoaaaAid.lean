/- Small plain lemmas that several laws of this seat share: sums that do not wrap, cuts of a list, and a printed row's word under its short name. -/
import Derived.Test.YtpojdmikpodoaaaWWords
import Derived.Test.YtpojdmikpodoaaaWMore
import Derived.Test.YtpojdmikpodoaaaWSized
namespace Go.Proofs.Ytpojdmikpodoaaa.PrintWords
open Go.ChangeShapes Go.WideShapes
theorem sized_ints {H : Type} {enc : TypeId × Value → H} {P : Program} {W : World} {base : Nat} {spare : Nat → Bool} {held : Bool} {t e : TypeId} {k : IntKind} {a : Option Addr} {len cap : Nat} {d : DataW H} {ps : List MemPlace} {ts : List TypeId} {ds : List (DataW H)} {j : Nat}
    (hsz : (DataW.weightsEach P ts ds).all (· ≤ reachBytes) = true) (ht : ts[j]? = some t) (hd : ds[j]? = some d) (hu : P.underlying t = some (.slice e)) (he : P.underlying e = some (.int k)) (hc : P.cellsOf e = 1) {B : Nat} (hB : P.bytesOf e = B)
    (h : DataW.Trod enc P W base spare held t (.slice a len cap) d ps) : len * B ≤ 140737488351232 :=
  Go.Proofs.YtpojdmikpodoaaaW.PrintWords.sized_ints hsz ht hd hu he hc hB h
end Go.Proofs.Ytpojdmikpodoaaa.PrintWords
namespace Go.Proofs.Ytpojdmikpodoaaa.Aid
open Go.RowKit Go.Proofs.YtpojdmikpodoaaaW.PrintWords Go.Proofs.YtpojdmikpodoaaaW.PrintMore

theorem wrap_id {i : Int} (h0 : -9223372036854775808 ≤ i) (h : i ≤ 9223372036854775807) : wrap64 i = i := by
  unfold wrap64
  omega
theorem wrap_up {i : Int} {n : Nat} (h0 : 0 ≤ i) (h : i < (n : Int)) (hn : n ≤ 9223372036854775807) : wrap64 (i + 1) = i + 1 := by
  unfold wrap64
  omega
theorem drop_rd (l : List Int) (i : Nat) (h : i < l.length) : l.drop i = rd l (i : Int) :: l.drop (i + 1) := by
  rw [List.drop_eq_getElem_cons h]
  simp [rd, List.getD, h]
theorem up_le (l : List Int) : ∀ a : Int, a ≤ l.foldl mx a := by
  induction l with
  | nil => intro a; simp
  | cons x l ih =>
    intro a
    rw [List.foldl_cons]
    exact Int.le_trans (by unfold mx; split <;> omega) (ih (mx a x))
theorem dn_le (l : List Int) : ∀ a : Int, l.foldl mn a ≤ a := by
  induction l with
  | nil => intro a; simp
  | cons x l ih =>
    intro a
    rw [List.foldl_cons]
    exact Int.le_trans (ih (mn a x)) (by unfold mn; split <;> omega)
theorem up_in (l : List Int) (B : Int) (h : ∀ x ∈ l, x ≤ B) : ∀ a : Int, a ≤ B → l.foldl mx a ≤ B := by
  induction l with
  | nil => intro a ha; simpa using ha
  | cons x l ih =>
    intro a ha
    rw [List.foldl_cons]
    exact ih (fun y hy => h y (by simp [hy])) _ (by have := h x (by simp); unfold mx; split <;> omega)
theorem dn_in (l : List Int) (B : Int) (h : ∀ x ∈ l, B ≤ x) : ∀ a : Int, B ≤ a → B ≤ l.foldl mn a := by
  induction l with
  | nil => intro a ha; simpa using ha
  | cons x l ih =>
    intro a ha
    rw [List.foldl_cons]
    exact ih (fun y hy => h y (by simp [hy])) _ (by have := h x (by simp); unfold mn; split <;> omega)
theorem up_neg (l : List Int) : ∀ a : Int, (l.map (fun x => -x)).foldl mx (-a) = -(l.foldl mn a) := by
  induction l with
  | nil => intro a; simp
  | cons x l ih =>
    intro a
    rw [List.map_cons, List.foldl_cons, List.foldl_cons, ← ih]
    congr 1
    unfold mx mn
    split <;> split <;> omega
theorem dn_neg (l : List Int) : ∀ a : Int, (l.map (fun x => -x)).foldl mn (-a) = -(l.foldl mx a) := by
  induction l with
  | nil => intro a; simp
  | cons x l ih =>
    intro a
    rw [List.map_cons, List.foldl_cons, List.foldl_cons, ← ih]
    congr 1
    unfold mx mn
    split <;> split <;> omega
end Go.Proofs.Ytpojdmikpodoaaa.Aid
