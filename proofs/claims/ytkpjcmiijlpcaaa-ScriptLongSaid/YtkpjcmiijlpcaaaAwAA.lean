/- An abstract program logic over the model: a range over a function: what is needed for its soundness. -/
import Derived.Test.YtkpjcmiijlpcaaaAwT
namespace Go.Proofs.Ytkpjcmiijlpcaaa.Aw
open Go

def ownB (β : Nat → Cr) (H : Nat → Ob) (b : Nat) : Prop := ∃ k, (H k).live = true ∧ (β k).has b
section
variable {P : Program} {M S0 : Nat → Prop} {w0 : World} {S : Nat → Prop} {β : Nat → Cr} {H : Nat → Ob} {w w' : World}
theorem ob_live {H' : Nat → Ob} {β' : Nat → Cr} {S' : Nat → Prop} (hx : Ext S w β H S' w' β' H') {k : Nat} (h : ObR S w β H (β k) (H k)) (e1 : H' k = H k) (e2 : β' k = β k) (hg : ∀ g, (H k).live = true → (β k).has g → w'.heap[g]? = w.heap[g]?) : ObR S' w' β' H' (β' k) (H' k) := by
  rw [e1, e2]
  by_cases hl : (H k).live = true
  · exact ObR.ext hx _ _ (fun g q => hg g hl q) h
  · exact ObR.idle (by simpa using hl)
/-- Memory goes on where nothing of ours lies; seen from there. -/
theorem Rel.rebase (h : Rel M S0 w0 S β H w) (hz : w.heap.size ≤ w'.heap.size) (hS : ∀ b, S b → w'.heap[b]? = w.heap[b]?) (hO : ∀ b, ownB β H b → w'.heap[b]? = w.heap[b]?) : Rel (ownB β H) S w' S β H w' ∧ Ext S w β H S w' β H := by
  have hx : Ext S w β H S w' β H := ⟨fun b hb => ⟨hb, hS b hb⟩, fun _ => ObExt.refl _ _⟩
  exact ⟨⟨Fr.refl _ _, fun _ hb => hb, fun b hb => ⟨Nat.lt_of_lt_of_le (h.sS b hb).1 hz, .inl hb⟩, fun k g hl hg => ⟨.inl ⟨k, hl, hg⟩, Nat.lt_of_lt_of_le (h.own k g hl hg).2.1 hz, (h.own k g hl hg).2.2⟩, h.dis, fun k => ob_live hx (h.ob k) rfl rfl fun g hl hg => hO g ⟨k, hl, hg⟩⟩, hx⟩
/-- Objects are given away. -/
theorem Rel.drop (h : Rel M S0 w0 S β H w) (H' : Nat → Ob) (hH : ∀ k, H' k = H k ∨ H' k = .dead) : Rel M S0 w0 S β H' w ∧ Ext S w β H S w β H' := by
  have hx : Ext S w β H S w β H' := ⟨fun b hb => ⟨hb, rfl⟩, fun k => by
    rcases hH k with e | e
    · rw [e]; exact ObExt.refl _ _
    · rw [e]
      cases H k with
      | none => trivial
      | dead => rfl
      | cells e cs => exact .inl rfl
      | row e t xs => exact .inl rfl
      | prow e xs => exact .inl rfl
      | map ag t es => exact .inl rfl
      | mit m n seen cur => exact .inl rfl
      | orow e t xs => exact .inl rfl
      | hrow e t xs i off => exact .inl rfl⟩
  have hl : ∀ k, (H' k).live = true → (H k).live = true ∧ H' k = H k := by
    intro k hk
    rcases hH k with e | e
    · exact ⟨by rw [← e]; exact hk, e⟩
    · rw [e] at hk; cases hk
  refine ⟨⟨h.fr, h.s0, h.sS, fun k g h1 h2 => h.own k g (hl k h1).1 h2, fun k k' g h1 h2 h3 h4 => h.dis k k' g (hl k h1).1 (hl k' h2).1 h3 h4, fun k => ?_⟩, hx⟩
  rcases hH k with e | e
  · exact ob_live hx (h.ob k) e rfl fun _ _ _ => rfl
  · rw [e]; trivial
theorem deadL_get (perm : List Nat) : ∀ (l : List Ob) (n k : Nat), (deadL perm l n).getD k .none = l.getD k .none ∨ (deadL perm l n).getD k .none = .dead ∧ n + k ∈ perm
  | [], _, _ => .inl rfl
  | o :: l, n, 0 => by
    simp only [deadL]
    cases hc : perm.contains n with
    | false => exact .inl rfl
    | true => exact .inr ⟨rfl, by simpa using hc⟩
  | o :: l, n, k + 1 => by
    have := deadL_get perm l (n + 1) k
    rw [show n + 1 + k = n + (k + 1) by omega] at this
    exact this
theorem deadL_dead (perm : List Nat) : ∀ (l : List Ob) (n k : Nat), n + k ∈ perm → k < l.length → (deadL perm l n).getD k .none = .dead
  | [], _, _, _, h => by simp at h
  | o :: l, n, 0, h, _ => by
    have : perm.contains n = true := by simpa using h
    simp only [deadL, this, cond_true]
    rfl
  | o :: l, n, k + 1, h, hl => deadL_dead perm l (n + 1) k (by rw [show n + 1 + k = n + (k + 1) by omega]; exact h) (by simpa using hl)
theorem deadL_length (perm : List Nat) : ∀ (l : List Ob) (n : Nat), (deadL perm l n).length = l.length
  | [], _ => rfl
  | o :: l, n => by simp [deadL, deadL_length perm l]
/-- A round's parameters. -/
theorem setL_sl : ∀ (ps : List Nat) (as : List AV) (us : List Value) (sl : List AV) (tm : Array Value), as.length = ps.length → us.length = ps.length → sl.length ≤ tm.size → (∀ t, VL S w β H (sl.getD t .undef) [tm.getD t undef]) → VLs S w β H as us →
    (setL sl ps as).length ≤ ((ps.zip us).foldl (fun tm p => tm.setIfInBounds p.1 p.2) tm).size ∧ ∀ t, VL S w β H ((setL sl ps as).getD t .undef) [((ps.zip us).foldl (fun tm p => tm.setIfInBounds p.1 p.2) tm).getD t undef]
  | [], as, us, sl, tm, _, _, hl, hs, _ => by
    cases as <;> exact ⟨hl, hs⟩
  | p :: ps, [], us, sl, tm, h1, _, _, _, _ => by simp at h1
  | p :: ps, x :: as, us, sl, tm, h1, h2, hl, hs, ⟨u, r, e, hx, hr⟩ => by
    subst e
    have hput := put_sl (a := ⟨tm, []⟩) (d := some p) (v := x) (u := u) hl hs hx
    exact setL_sl ps as r (sl.set p x) (tm.setIfInBounds p u) (by simpa using h1) (by simpa using h2) hput.1 hput.2 hr
theorem zip_foldl (ps : Array Tmp) (us : List Value) (tm : Array Value) : (ps.zip us.toArray).foldl (fun tmps (t, a) => tmps.setIfInBounds t a) tm = (ps.toList.zip us).foldl (fun tm p => tm.setIfInBounds p.1 p.2) tm := by
  rw [← Array.foldl_toList, Array.toList_zip]
/-- Entering a range over a function. -/
theorem enter_ok {ρ : Option Nat} (hR : ∀ l, ρ = some l → ∃ r, w.heap[l]? = some (.loop r)) (fn : FuncId) (tm : Array Value) (ps : Array Tmp) (x y : Code) :
    ∃ L mark w1 db, (Instr.enterLoop fn tm ps x y ρ).run P w = .ok (L, mark) w1 ∧ w1.os = w.os ∧ w1.tape = w.tape ∧ w1.output = w.output ∧ w.heap.size ≤ w1.heap.size ∧ (∀ b, b < w.heap.size → w1.heap[b]? = w.heap[b]?) ∧
      w1.heap[L]? = some (.loop { state := .ready, pending := none, fn, tmps := tm, params := ps, assign := x, body := y, defers := db }) ∧ w.heap.size ≤ L ∧
      (mark = [] ∨ ∃ D, mark = [{ target := .collected D, args := #[] }] ∧ w.heap.size ≤ D ∧ D ≠ L ∧ w1.heap[D]? = some (.deferred (some []))) ∧ (ρ.isSome = true → mark = []) := by
  cases ρ with
  | none =>
    refine ⟨w.heap.size + 1, [{ target := .collected w.heap.size, args := #[] }], _, w.heap.size, run_enterLoop_outer fn tm ps x y, rfl, rfl, rfl, ?_, ?_, ?_, ?_, .inr ⟨w.heap.size, rfl, Nat.le_refl _, ?_, ?_⟩, fun h => by cases h⟩
    · rw [size_alloc, size_alloc]; omega
    · intro b hb
      rw [heap_alloc_lt _ _ _ (by rw [size_alloc]; omega), heap_alloc_lt _ _ _ hb]
    · have := heap_alloc_at (w.alloc (.deferred (some []))) (.loop { state := .ready, pending := none, fn, tmps := tm, params := ps, assign := x, body := y, defers := w.heap.size })
      rw [size_alloc] at this
      exact this
    · omega
    · omega
    · rw [heap_alloc_lt _ _ _ (by rw [size_alloc]; omega)]; exact heap_alloc_at w _
  | some l =>
    obtain ⟨r, hr⟩ := hR l rfl
    exact ⟨_, _, _, _, run_enterLoop_inner hr fn tm ps x y, rfl, rfl, rfl, by rw [size_alloc]; omega, fun b hb => heap_alloc_lt _ _ _ hb, heap_alloc_at w _, Nat.le_refl _, .inl rfl, fun _ => rfl⟩
theorem lt_of_heap {b : Nat} {o : Obj} (h : w.heap[b]? = some o) : b < w.heap.size := (Array.getElem?_eq_some_iff.1 h).1
theorem YieldOk.noY {env : Env} {B : Bs} {π : Pin} : YieldOk P env.noY B π := YieldOk.none ⟨rfl, rfl⟩
theorem EnvOk.hint {env : Env} (he : EnvOk P env) (l m : List Nat) : EnvOk P (env.hint l m) := ⟨he.one, he.two, he.pan, he.iter⟩
theorem EnvOk.cut {env : Env} (he : EnvOk P env) (l : List Nat) : EnvOk P (env.cut l) := ⟨he.one, he.two, he.pan, he.iter⟩
theorem EnvOk.noY {env : Env} (he : EnvOk P env) : EnvOk P env.noY := ⟨he.one, he.two, he.pan, he.iter⟩
end
end Go.Proofs.Ytkpjcmiijlpcaaa.Aw
