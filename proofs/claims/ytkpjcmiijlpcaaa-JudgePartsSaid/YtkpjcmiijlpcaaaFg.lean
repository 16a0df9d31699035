/- The Floats ahead of a place: slices. -/
import Derived.Test.YtkpjcmiijlpcaaaWa
import Derived.Test.YtkpjcmiijlpcaaaEa
import Derived.Test.YtkpjcmiijlpcaaaFa
import Derived.Test.YtkpjcmiijlpcaaaFb
import Derived.Test.YtkpjcmiijlpcaaaFc
import Derived.Test.YtkpjcmiijlpcaaaFd
import Derived.Test.YtkpjcmiijlpcaaaFf
import Derived.Test.YtkpjcmiijlpcaaaAwZ
import Derived.KernelRfl
set_option linter.unusedVariables false
set_option linter.unusedSimpArgs false
namespace Go.Proofs.Ytkpjcmiijlpcaaa.W
open Go Go.Proofs Go.Proofs.Ytkpjcmiijlpcaaa.Aw
noncomputable section
def consM0 : Cons := (20, con20) :: (30, con30) :: []
def twosM0 : Cons2 := []
def pansM0 : Cons3 := []
def itersM0 : Cons4 := []
abbrev eM0 : Env := envOf4 consM0 twosM0 pansM0 itersM0
theorem allconsM0 : ∀ c ∈ consM0, ConOk Try.prog c := all_cons ok20 (all_cons ok30 all_nil)
theorem alltwosM0 : ∀ c ∈ twosM0, ConOk2 Try.prog c := all_nil
theorem allpansM0 : ∀ c ∈ pansM0, ConOk3 Try.prog c := all_nil
theorem allitersM0 : ∀ c ∈ itersM0, ConOk4 Try.prog c := all_nil
theorem envM0 : EnvOk Try.prog eM0 := envOf4_ok _ _ _ _ allconsM0 alltwosM0 allpansM0 allitersM0
def delB (xs : List Nd) (at' i : Int) : Bool := bif decide (i ≥ at') then true else (ndAt xs i).1.2.1 != 2
def con29 : List AV → List Ob → Option Tells2
  | [.int .i64 i, .ptr 0 0, .ptr 1 0], [.cells 3 [.int .i64 at'], .cells 41 [.lptr 94 (.list 98 (.pair (.pair (.int .i64) (.pair (.int .i64) (.pair (.int .i64) (.pair (.int .i64) (.pair (.int .i64) (.pair (.int .i64) (.pair (.pair (.int .i64) (.pair (.int .i64) (.pair (.int .i64) (.int .i64)))) (.pair (.int .i64) (.pair (.int .i64) (.pair (.int .i64) (.int .i64))))))))))) (.pair (.int .i64) (.pair (.int .i64) (.pair (.int .i64) (.list 3 (.int .i64))))))) [xs] 0 0]] => some ⟨[], .bool (blk (delB xs at' i)), [none, none], []⟩
  | _, _ => none
theorem f29_run (R : AV → List Ob → Prop) (i at' : Int) (xs : List TN.den) : fnB tab eM0 Try.f29 (bodyOf Try.f29) [.int .i64 i, .ptr 0 0, .ptr 1 0] [.cells 3 [.int .i64 at'], .cells 41 [.lptr 94 (.list 98 TN) [xs] 0 0]] R = (bif !decide (i ≥ at') then R (AV.bool ((ndAt xs i).fst.snd.fst != 2)) [Ob.cells 3 [AV.int IntKind.i64 at'], Ob.cells 41 [AV.lptr 94 (Ty.list 98 TN) [xs] 0 0]] else R (AV.bool true) [Ob.cells 3 [AV.int IntKind.i64 at'], Ob.cells 41 [AV.lptr 94 (Ty.list 98 TN) [xs] 0 0]]) := by kernel_rfl
theorem ok29 : ConOk2 Try.prog (29, con29) := by
  intro args obs t h hp
  change con29 args obs = some t at h
  unfold con29 at h
  split at h
  · rename_i i at' xs
    change List TN.den at xs
    cases h
    refine fn_ok2 envM0 tab_ok mixed Try.func29 (by kernel_rfl) (by kernel_rfl) ?_
    rw [f29_run]
    try dsimp only
    rw [blk_eq]
    unfold delB
    refine ndec_split (fun h => ?_) (fun h => ?_)
    · rw [decide_eq_false h]; exact ⟨rfl, rfl⟩
    · rw [decide_eq_true h]; exact ⟨rfl, rfl⟩
  · cases h
def consM1 : Cons := consM0
def twosM1 : Cons2 := (29, con29) :: twosM0
def pansM1 : Cons3 := pansM0
def itersM1 : Cons4 := itersM0
abbrev eM1 : Env := envOf4 consM1 twosM1 pansM1 itersM1
theorem allconsM1 : ∀ c ∈ consM1, ConOk Try.prog c := allconsM0
theorem alltwosM1 : ∀ c ∈ twosM1, ConOk2 Try.prog c := all_cons ok29 alltwosM0
theorem allpansM1 : ∀ c ∈ pansM1, ConOk3 Try.prog c := allpansM0
theorem allitersM1 : ∀ c ∈ itersM1, ConOk4 Try.prog c := allitersM0
theorem envM1 : EnvOk Try.prog eM1 := envOf4_ok _ _ _ _ allconsM1 alltwosM1 allpansM1 allitersM1
def con48_d : List AV → List Ob → Option Tells2
  | [.row 0, .fn (.func 29) .nl (.cons (.ptr 1 0) (.cons (.ptr 2 0) .nl))], [.row 3 (.int .i64) l, .cells 3 [.int .i64 at'], .cells 41 [.lptr 94 (.list 98 (.pair (.pair (.int .i64) (.pair (.int .i64) (.pair (.int .i64) (.pair (.int .i64) (.pair (.int .i64) (.pair (.int .i64) (.pair (.pair (.int .i64) (.pair (.int .i64) (.pair (.int .i64) (.int .i64)))) (.pair (.int .i64) (.pair (.int .i64) (.pair (.int .i64) (.int .i64))))))))))) (.pair (.int .i64) (.pair (.int .i64) (.pair (.int .i64) (.list 3 (.int .i64))))))) [xs] 0 0]] => some ⟨[l.length ≤ 65536], .int .i64 (blk (idxFrom (delB xs at') l 0)), [none, none, none], []⟩
  | _, _ => none
def f48_d_live1 : List Nat := [8, 7, 8, 1, 0, 8, 4]
def f48_d_head1 (l : List (Ty.int IntKind.i64).den) (at' : Int) (xs : List TN.den) (s8 : Int) : St := { slots := [AV.row 0, AV.fn (Fn.func 29) AV.nl ((AV.ptr 1 0).cons ((AV.ptr 2 0).cons AV.nl)), AV.undef, AV.undef, AV.int IntKind.i64 0, AV.undef, AV.undef, AV.int IntKind.i64 (↑l.length : Int), AV.int IntKind.i64 s8] ++ List.replicate 10 AV.undef, obs := [Ob.row 3 (Ty.int IntKind.i64) l, Ob.cells 3 [AV.int IntKind.i64 at'], Ob.cells 41 [AV.lptr 94 (Ty.list 98 TN) [xs] 0 0]], n := 3 }
def f48_d_q1 (R : AV → List Ob → Prop) : Ex → St → Prop := blockA 0 (seqQ tab eM1 (subC [1, 1] (bodyOf Try.f48)) [4] (endA tab Try.f48 R))
def f48_d_loop1 (R : AV → List Ob → Prop) (l : List (Ty.int IntKind.i64).den) (at' : Int) (xs : List TN.den) (s8 : Int) : Prop := loopT f48_d_live1 (codeA tab eM1 (subC [1, 0, 1, 0, 0] (bodyOf Try.f48)) f48_d_live1) (f48_d_head1 l at' xs s8) (f48_d_q1 R)
def f48_d_rhs1 (R : AV → List Ob → Prop) (l : List (Ty.int IntKind.i64).den) (at' : Int) (xs : List TN.den) (J : St → Prop) (s8 : Int) : Prop := bif decide (s8 < (↑l.length : Int)) then 0 ≤ s8 ∧ s8 < (↑l.length : Int) ∧ bif blk (delB xs at' (l.getD s8.toNat 0)) then R (AV.int IntKind.i64 s8) [Ob.row 3 (Ty.int IntKind.i64) l, Ob.cells 3 [AV.int IntKind.i64 at'], Ob.cells 41 [AV.lptr 94 (Ty.list 98 TN) [xs] 0 0]] else J (f48_d_head1 l at' xs (IntKind.i64.wrap (s8 + 1))) else R (AV.int IntKind.i64 (-1)) [Ob.row 3 (Ty.int IntKind.i64) l, Ob.cells 3 [AV.int IntKind.i64 at'], Ob.cells 41 [AV.lptr 94 (Ty.list 98 TN) [xs] 0 0]]
theorem f48_d_eq1 (R : AV → List Ob → Prop) (l : List (Ty.int IntKind.i64).den) (at' : Int) (xs : List TN.den) (J : St → Prop) (s8 : Int) : codeA tab eM1 (subC [1, 0, 1, 0, 0] (bodyOf Try.f48)) f48_d_live1 (f48_d_head1 l at' xs s8) (thenA (fun s => J (St.tidy f48_d_live1 s)) (f48_d_q1 R)) = f48_d_rhs1 R l at' xs J s8 := by kernel_rfl
theorem f48_d_rule1 (R : AV → List Ob → Prop) (l : List (Ty.int IntKind.i64).den) (at' : Int) (xs : List TN.den) (I : Nat → (Int) → Prop) (n : Nat) (s8 : Int) (h0 : I n s8) (h : ∀ n, ∀ (s8 : Int), I n s8 → f48_d_rhs1 R l at' xs (fun t => ∃ m, m < n ∧ ∃ (s8 : Int), t = f48_d_head1 l at' xs s8 ∧ I m s8) s8) : f48_d_loop1 R l at' xs s8 :=
  loop_intro (fun n t => ∃ (s8 : Int), t = f48_d_head1 l at' xs s8 ∧ I n s8) n ⟨s8, rfl, h0⟩ (fun n t ht => by obtain ⟨s8, rfl, hI⟩ := ht; exact Eq.mpr (f48_d_eq1 R l at' xs (fun t => ∃ m, m < n ∧ ∃ (s8 : Int), t = f48_d_head1 l at' xs s8 ∧ I m s8) s8) (h n s8 hI))
theorem f48_d_run (R : AV → List Ob → Prop) (l : List (Ty.int .i64).den) (at' : Int) (xs : List TN.den) : fnB tab eM1 Try.f48 (bodyOf Try.f48) [.row 0, .fn (.func 29) .nl (.cons (.ptr 1 0) (.cons (.ptr 2 0) .nl))] [.row 3 (.int .i64) l, .cells 3 [.int .i64 at'], .cells 41 [.lptr 94 (.list 98 TN) [xs] 0 0]] R = (f48_d_loop1 R l at' xs 0) := by kernel_rfl
theorem ok48_d : ConOk2 Try.prog (48, con48_d) := by
  intro args obs t h hp
  change con48_d args obs = some t at h
  unfold con48_d at h
  split at h
  · rename_i l at' xs
    change List (Ty.int .i64).den at l
    change List TN.den at xs
    cases h
    refine fn_ok2 envM1 tab_ok mixed Try.func48 (by kernel_rfl) (by kernel_rfl) ?_
    rw [f48_d_run]
    try dsimp only
    have hx := hp (l.length ≤ 65536) (by simp)
    clear hp
    rw [blk_eq]
    refine f48_d_rule1 _ l at' xs (fun n i => ∃ k : Nat, k ≤ l.length ∧ n = l.length - k ∧ i = k ∧ idxFrom (delB xs at') l 0 = idxFrom (delB xs at') (l.drop k) k) l.length 0 ⟨0, by omega, by simp, rfl, rfl⟩ ?_
    rintro n i ⟨k, hk, rfl, rfl, hi⟩
    unfold f48_d_rhs1
    refine dec_split (fun hlt => ⟨by omega, hlt, ?_⟩) (fun hlt => ?_)
    · have hlt' : k < l.length := by omega
      rw [idx_step (delB xs at') l k hlt'] at hi
      rw [blk_eq]
      refine cond_split (fun hc => ?_) (fun hc => ?_)
      · rw [show delB xs at' _ = true from hc] at hi
        rw [hi]
        exact ⟨rfl, rfl⟩
      · rw [show delB xs at' _ = false from hc] at hi
        exact ⟨l.length - (k + 1), by omega, _, rfl, k + 1, by omega, rfl, wrap_next k _ hlt' (by simp only [maxLen]; omega), hi⟩
    · rw [hi, List.drop_of_length_le (by omega)]
      exact ⟨rfl, rfl⟩
  · cases h
def consM2 : Cons := consM1
def twosM2 : Cons2 := (48, con48_d) :: twosM1
def pansM2 : Cons3 := pansM1
def itersM2 : Cons4 := itersM1
abbrev eM2 : Env := envOf4 consM2 twosM2 pansM2 itersM2
theorem allconsM2 : ∀ c ∈ consM2, ConOk Try.prog c := allconsM1
theorem alltwosM2 : ∀ c ∈ twosM2, ConOk2 Try.prog c := all_cons ok48_d alltwosM1
theorem allpansM2 : ∀ c ∈ pansM2, ConOk3 Try.prog c := allpansM1
theorem allitersM2 : ∀ c ∈ itersM2, ConOk4 Try.prog c := allitersM1
theorem envM2 : EnvOk Try.prog eM2 := envOf4_ok _ _ _ _ allconsM2 alltwosM2 allpansM2 allitersM2
theorem idx_spec (p : Int → Bool) : ∀ (l : List Int) (i : Int), 0 ≤ i → (idxFrom p l i = -1 ∧ l.filter (fun x => !p x) = l) ∨ ∃ k : Nat, k < l.length ∧ idxFrom p l i = i + k ∧ (l.take k).filter (fun x => !p x) = l.take k ∧ p (l.getD k 0) = true
  | [], i, _ => .inl ⟨rfl, rfl⟩
  | x :: l, i, h => by
    cases hx : p x with
    | true => exact .inr ⟨0, by simp, by simp [idxFrom, hx], by simp, by simpa using hx⟩
    | false =>
      have e : idxFrom p (x :: l) i = idxFrom p l (i + 1) := by simp [idxFrom, hx]
      rcases idx_spec p l (i + 1) (by omega) with ⟨h1, h2⟩ | ⟨k, h1, h2, h3, h4⟩
      · exact .inl ⟨e.trans h1, by rw [List.filter_cons, hx]; simp [h2]⟩
      · exact .inr ⟨k + 1, by simp; omega, by rw [e, h2]; push_cast; omega, by rw [List.take_succ_cons, List.filter_cons, hx]; simp [h3], by simpa using h4⟩
theorem take_set {r : List Int} {i : Nat} (x : Int) (h : i < r.length) : (r.set i x).take (i + 1) = r.take i ++ [x] := by
  apply List.ext_getElem?
  intro j
  rw [List.getElem?_take, List.getElem?_set, List.getElem?_append, List.length_take, List.getElem?_take]
  by_cases h1 : j < i
  · rw [if_pos (by omega), if_neg (by omega), if_pos (by omega), if_pos h1]
  · by_cases h2 : j = i
    · subst h2
      rw [if_pos (by omega), if_pos rfl, if_pos h, if_neg (by omega), show j - min j r.length = 0 by omega]; rfl
    · rw [if_neg (by omega), if_neg (by omega), List.getElem?_eq_none (by simp; omega)]
theorem getD_drop {r l : List Int} {j : Nat} (h : r.drop j = l.drop j) : r.getD j 0 = l.getD j 0 := by
  have := congrArg (fun l : List Int => l[0]?) h
  simp only [List.getElem?_drop, Nat.add_zero] at this
  simp only [List.getD, this]
theorem drop_more {r l : List Int} {j : Nat} (h : r.drop j = l.drop j) : r.drop (j + 1) = l.drop (j + 1) := by
  rw [← List.drop_drop, ← List.drop_drop, h]
abbrev eM2h28 : Env := eM2.hint [] [41]
theorem envM2h28 : EnvOk Try.prog eM2h28 := envM2.hint _ _
def con28 : List AV → List Ob → Option Tells2
  | [.row 0, .fn (.func 29) .nl (.cons (.ptr 1 0) (.cons (.ptr 2 0) .nl))], [.row 3 (.int .i64) l, .cells 3 [.int .i64 at'], .cells 41 [.lptr 94 (.list 98 (.pair (.pair (.int .i64) (.pair (.int .i64) (.pair (.int .i64) (.pair (.int .i64) (.pair (.int .i64) (.pair (.int .i64) (.pair (.pair (.int .i64) (.pair (.int .i64) (.pair (.int .i64) (.int .i64)))) (.pair (.int .i64) (.pair (.int .i64) (.pair (.int .i64) (.int .i64))))))))))) (.pair (.int .i64) (.pair (.int .i64) (.pair (.int .i64) (.list 3 (.int .i64))))))) [xs] 0 0]] => some ⟨[l.length ≤ 65536], .row 3, [some .dead, none, none], [.row 3 (.int .i64) (l.filter fun i => !delB xs at' i)]⟩
  | _, _ => none
def f28_live1 : List Nat := [6, 0, 0, 6, 1, 0, 5, 5, 6, 0, 5, 0, 5, 4]
def f28_head1 (at' : Int) (xs : List TN.den) (s5 : Int) (s6 : Int) (o3 : List Int) : St := { slots := [AV.row 3, AV.fn (Fn.func 29) AV.nl ((AV.ptr 1 0).cons ((AV.ptr 2 0).cons AV.nl)), AV.undef, AV.undef, AV.row 4, AV.int IntKind.i64 s5, AV.int IntKind.i64 s6] ++ List.replicate 35 AV.undef, obs := [Ob.dead, Ob.cells 3 [AV.int IntKind.i64 at'], Ob.cells 41 [AV.lptr 94 (Ty.list 98 TN) [xs] 0 0], Ob.row 3 (Ty.int IntKind.i64) o3, Ob.row 3 (Ty.int IntKind.i64) []], n := 3 }
def f28_q1 (R : AV → List Ob → Prop) : Ex → St → Prop := blockA 0 (seqQ tab eM2h28 (subC [1, 1, 1, 1] (bodyOf Try.f28)) [4] (endA tab Try.f28 R))
def f28_loop1 (R : AV → List Ob → Prop) (at' : Int) (xs : List TN.den) (s5 : Int) (s6 : Int) (o3 : List Int) : Prop := loopT f28_live1 (codeA tab eM2h28 (subC [1, 1, 1, 0, 1, 0, 0] (bodyOf Try.f28)) f28_live1) (f28_head1 at' xs s5 s6 o3) (f28_q1 R)
def f28_rhs1 (R : AV → List Ob → Prop) (at' : Int) (xs : List TN.den) (J : St → Prop) (s5 : Int) (s6 : Int) (o3 : List Int) : Prop := bif decide (s6 < (↑o3.length : Int)) then 0 ≤ s6 ∧ s6 < (↑o3.length : Int) ∧ bif !blk (delB xs at' (o3.getD s6.toNat 0)) then 0 ≤ s5 ∧ s5 < (↑o3.length : Int) ∧ J (f28_head1 at' xs (IntKind.i64.wrap (s5 + 1)) (IntKind.i64.wrap (s6 + 1)) (o3.set s5.toNat (o3.getD s6.toNat 0))) else J (f28_head1 at' xs s5 (IntKind.i64.wrap (s6 + 1)) o3) else 0 ≤ s5 ∧ s5 ≤ (↑o3.length : Int) ∧ (↑o3.length : Int) ≤ (↑o3.length : Int) ∧ 0 ≤ s5 ∧ s5 ≤ (↑(List.take s5.toNat o3 ++ (List.replicate ((↑o3.length : Int) - s5).toNat 0 ++ List.drop (s5.toNat + ((↑o3.length : Int) - s5).toNat) o3)).length : Int) ∧ R (AV.row 3) [Ob.dead, Ob.cells 3 [AV.int IntKind.i64 at'], Ob.cells 41 [AV.lptr 94 (Ty.list 98 TN) [xs] 0 0], Ob.row 3 (Ty.int IntKind.i64) (List.take s5.toNat (List.take s5.toNat o3 ++ (List.replicate ((↑o3.length : Int) - s5).toNat 0 ++ List.drop (s5.toNat + ((↑o3.length : Int) - s5).toNat) o3)))]
theorem f28_eq1 (R : AV → List Ob → Prop) (at' : Int) (xs : List TN.den) (J : St → Prop) (s5 : Int) (s6 : Int) (o3 : List Int) : codeA tab eM2h28 (subC [1, 1, 1, 0, 1, 0, 0] (bodyOf Try.f28)) f28_live1 (f28_head1 at' xs s5 s6 o3) (thenA (fun s => J (St.tidy f28_live1 s)) (f28_q1 R)) = f28_rhs1 R at' xs J s5 s6 o3 := by kernel_rfl
theorem f28_rule1 (R : AV → List Ob → Prop) (at' : Int) (xs : List TN.den) (I : Nat → (Int) → (Int) → (List Int) → Prop) (n : Nat) (s5 : Int) (s6 : Int) (o3 : List Int) (h0 : I n s5 s6 o3) (h : ∀ n, ∀ (s5 : Int) (s6 : Int) (o3 : List Int), I n s5 s6 o3 → f28_rhs1 R at' xs (fun t => ∃ m, m < n ∧ ∃ (s5 : Int) (s6 : Int) (o3 : List Int), t = f28_head1 at' xs s5 s6 o3 ∧ I m s5 s6 o3) s5 s6 o3) : f28_loop1 R at' xs s5 s6 o3 :=
  loop_intro (fun n t => ∃ (s5 : Int) (s6 : Int) (o3 : List Int), t = f28_head1 at' xs s5 s6 o3 ∧ I n s5 s6 o3) n ⟨s5, s6, o3, rfl, h0⟩ (fun n t ht => by obtain ⟨s5, s6, o3, rfl, hI⟩ := ht; exact Eq.mpr (f28_eq1 R at' xs (fun t => ∃ m, m < n ∧ ∃ (s5 : Int) (s6 : Int) (o3 : List Int), t = f28_head1 at' xs s5 s6 o3 ∧ I m s5 s6 o3) s5 s6 o3) (h n s5 s6 o3 hI))
theorem f28_run (R : AV → List Ob → Prop) (l : List (Ty.int .i64).den) (at' : Int) (xs : List TN.den) : fnM tab eM2h28 Try.f28 (bodyOf Try.f28) [.row 0, .fn (.func 29) .nl (.cons (.ptr 1 0) (.cons (.ptr 2 0) .nl))] [.row 3 (.int .i64) l, .cells 3 [.int .i64 at'], .cells 41 [.lptr 94 (.list 98 TN) [xs] 0 0]] 0 R = (l.length ≤ 65536 ∧ bif blk (idxFrom (delB xs at') l 0) == -1 then R (AV.row 3) [Ob.dead, Ob.cells 3 [AV.int IntKind.i64 at'], Ob.cells 41 [AV.lptr 94 (Ty.list 98 TN) [xs] 0 0], Ob.row 3 (Ty.int IntKind.i64) l] else f28_loop1 R at' xs (blk (idxFrom (delB xs at') l 0)) (IntKind.i64.wrap (blk (idxFrom (delB xs at') l 0) + 1)) l) := by kernel_rfl
theorem ok28 : ConOk2 Try.prog (28, con28) := by
  intro args obs t h hp
  change con28 args obs = some t at h
  unfold con28 at h
  split at h
  · rename_i l at' xs
    change List (Ty.int .i64).den at l
    change List TN.den at xs
    cases h
    refine fn_ok2M envM2h28 tab_ok mixed Try.func28 (by kernel_rfl) (by kernel_rfl) 0 (by simp) ?_
    rw [f28_run]
    try dsimp only
    have hx := hp (l.length ≤ 65536) (by simp)
    clear hp
    refine ⟨hx, ?_⟩
    rw [blk_eq]
    rcases idx_spec (delB xs at') l 0 (Int.le_refl 0) with ⟨h1, h2⟩ | ⟨k, hk, h2, h3, h4⟩
    · rw [h1, h2]
      exact ⟨rfl, rfl⟩
    rw [h2, show (0 : Int) + k = k by omega]
    refine cond_no (beq_eq_false_iff_ne.2 (by omega)) ?_
    have hstart : l.take k = (l.take (k + 1)).filter fun i => !delB xs at' i := by
      rw [take_next l k hk, List.filter_append, h3]
      rw [getD_nat' l 0 k hk] at h4
      simp [h4]
    refine f28_rule1 _ at' xs (fun n s5 s6 r => ∃ i j : Nat, j ≤ l.length ∧ i < j ∧ n = l.length - j ∧ s5 = i ∧ s6 = j ∧ r.length = l.length ∧ r.take i = ((l.take j).filter fun i => !delB xs at' i) ∧ r.drop j = l.drop j) (l.length - (k + 1)) _ _ l ⟨k, k + 1, by omega, by omega, rfl, rfl, wrap_next k _ hk (by simp only [maxLen]; omega), rfl, hstart, rfl⟩ ?_
    rintro n s5 s6 r ⟨i, j, hj, hij, rfl, rfl, rfl, hr, hrt, hrd⟩
    unfold f28_rhs1
    refine dec_split (fun hlt => ⟨by omega, hlt, ?_⟩) (fun hlt => ?_)
    · have hlt' : j < l.length := by omega
      rw [Int.toNat_natCast, Int.toNat_natCast, getD_drop hrd, blk_eq]
      have hn : IntKind.wrap .i64 ((j : Int) + 1) = ((j + 1 : Nat) : Int) := wrap_next j _ hlt' (by simp only [maxLen]; omega)
      have hf : ((l.take (j + 1)).filter fun i => !delB xs at' i) = ((l.take j).filter fun i => !delB xs at' i) ++ if !delB xs at' (l.getD j 0) then [l.getD j 0] else [] := by
        rw [take_next l j hlt', List.filter_append, getD_nat' l 0 j hlt']
        cases hd : delB xs at' l[j] <;> simp [hd]
      refine cond_split (fun hc => ?_) (fun hc => ?_)
      · refine ⟨by omega, by omega, l.length - (j + 1), by omega, _, _, _, rfl, i + 1, j + 1, by omega, by omega, rfl, wrap_id _ (by omega), hn, by rw [List.length_set]; exact hr, ?_, ?_⟩
        · rw [take_set _ (by omega), hrt, hf, if_pos hc]
        · rw [List.drop_set_of_lt (by omega)]; exact drop_more hrd
      · refine ⟨l.length - (j + 1), by omega, _, _, _, rfl, i, j + 1, by omega, by omega, rfl, rfl, hn, hr, ?_, drop_more hrd⟩
        rw [hrt, hf, if_neg (by rw [hc]; simp), List.append_nil]
    · have hj' : j = l.length := by omega
      refine ⟨by omega, by omega, by omega, by omega, by simp; omega, rfl, ?_⟩
      have e : List.take (i : Int).toNat (List.take (i : Int).toNat r ++ (List.replicate ((r.length : Int) - i).toNat 0 ++ List.drop ((i : Int).toNat + ((r.length : Int) - i).toNat) r)) = l.filter fun i => !delB xs at' i := by
        rw [Int.toNat_natCast, List.take_append, List.take_take, Nat.min_self, List.length_take, show i - min i r.length = 0 by omega, List.take_zero, List.append_nil, hrt, hj', List.take_of_length_le (Nat.le_refl _)]
      rw [e]
      rfl
  · cases h
def consM3 : Cons := consM2
def twosM3 : Cons2 := (28, con28) :: twosM2
def pansM3 : Cons3 := pansM2
def itersM3 : Cons4 := itersM2
abbrev eM3 : Env := envOf4 consM3 twosM3 pansM3 itersM3
theorem allconsM3 : ∀ c ∈ consM3, ConOk Try.prog c := allconsM2
theorem alltwosM3 : ∀ c ∈ twosM3, ConOk2 Try.prog c := all_cons ok28 alltwosM2
theorem allpansM3 : ∀ c ∈ pansM3, ConOk3 Try.prog c := allpansM2
theorem allitersM3 : ∀ c ∈ itersM3, ConOk4 Try.prog c := allitersM2
theorem envM3 : EnvOk Try.prog eM3 := envOf4_ok _ _ _ _ allconsM3 alltwosM3 allpansM3 allitersM3
def fltL (xs : List Nd) (c at' : Int) : List Int := (memL xs c).filter fun i => !delB xs at' i
def con19 : List AV → Option Tells
  | [.lptr 94 (.list 98 (.pair (.pair (.int .i64) (.pair (.int .i64) (.pair (.int .i64) (.pair (.int .i64) (.pair (.int .i64) (.pair (.int .i64) (.pair (.pair (.int .i64) (.pair (.int .i64) (.pair (.int .i64) (.int .i64)))) (.pair (.int .i64) (.pair (.int .i64) (.pair (.int .i64) (.int .i64))))))))))) (.pair (.int .i64) (.pair (.int .i64) (.pair (.int .i64) (.list 3 (.int .i64))))))) [xs] 0 0, .int .i64 c, .int .i64 at'] => some ⟨[∀ x ∈ (xs : List Nd), x.2.2.2.2.length ≤ 65536, endQ xs (topQ xs c), (memL xs c).length ≤ 65536], .row 0, [.row 3 (.int .i64) (fltL xs c at')]⟩
  | _ => none
theorem f19_run (R : AV → List Ob → Prop) (xs : List TN.den) (c at' : Int) : fnA tab eM3 Try.f19 (bodyOf Try.f19) [.lptr 94 (.list 98 TN) [xs] 0 0, .int .i64 c, .int .i64 at'] R = ((∀ (x : TN.den), x ∈ xs → List.length x.snd.snd.snd.snd ≤ 65536) ∧ endQ xs (topQ xs c) ∧ (memL xs c).length ≤ 65536 ∧ R (AV.row 0) [Ob.row 3 (Ty.int IntKind.i64) (List.filter (fun i => !delB xs at' i) (memL xs c))]) := by kernel_rfl
theorem ok19 : ConOk Try.prog (19, con19) := by
  intro args t h hp
  change con19 args = some t at h
  unfold con19 at h
  split at h
  · rename_i xs c at'
    change List TN.den at xs
    cases h
    refine fn_ok envM3 tab_ok mixed Try.func19 (by kernel_rfl) (by kernel_rfl) ?_
    rw [f19_run]
    try dsimp only
    exact ⟨hp (∀ x ∈ (xs : List Nd), x.2.2.2.2.length ≤ 65536) (by simp), hp (endQ xs (topQ xs c)) (by simp), hp ((memL xs c).length ≤ 65536) (by simp), rfl, rfl⟩
  · cases h
end
end Go.Proofs.Ytkpjcmiijlpcaaa.W
