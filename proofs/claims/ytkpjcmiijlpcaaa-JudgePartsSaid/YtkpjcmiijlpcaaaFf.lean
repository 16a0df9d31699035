/- The functions of layer 7 (walk), and what they come to: a context's walk, and its members. -/
import Derived.Test.YtkpjcmiijlpcaaaWa
import Derived.Test.YtkpjcmiijlpcaaaEa
import Derived.Test.YtkpjcmiijlpcaaaFa
import Derived.Test.YtkpjcmiijlpcaaaFb
import Derived.Test.YtkpjcmiijlpcaaaFc
import Derived.Test.YtkpjcmiijlpcaaaFd
import Derived.Test.YtkpjcmiijlpcaaaAwZ
import Derived.KernelRfl
set_option linter.unusedVariables false
set_option linter.unusedSimpArgs false
namespace Go.Proofs.Ytkpjcmiijlpcaaa.W
open Go Go.Proofs Go.Proofs.Ytkpjcmiijlpcaaa.Aw
noncomputable section
def con52 : List AV → List Ob → Option Tells2
  | [.lptr 94 (.list 98 (.pair (.pair (.int .i64) (.pair (.int .i64) (.pair (.int .i64) (.pair (.int .i64) (.pair (.int .i64) (.pair (.int .i64) (.pair (.pair (.int .i64) (.pair (.int .i64) (.pair (.int .i64) (.int .i64)))) (.pair (.int .i64) (.pair (.int .i64) (.pair (.int .i64) (.int .i64))))))))))) (.pair (.int .i64) (.pair (.int .i64) (.pair (.int .i64) (.list 3 (.int .i64))))))) [xs] 0 0, .list 3 (.int .i64) q, .fn (.func 53) .nl (.cons (.ptr 0 0) .nl)], [.cells 41 [.lptr 94 (.list 98 (.pair (.pair (.int .i64) (.pair (.int .i64) (.pair (.int .i64) (.pair (.int .i64) (.pair (.int .i64) (.pair (.int .i64) (.pair (.pair (.int .i64) (.pair (.int .i64) (.pair (.int .i64) (.int .i64)))) (.pair (.int .i64) (.pair (.int .i64) (.pair (.int .i64) (.int .i64))))))))))) (.pair (.int .i64) (.pair (.int .i64) (.pair (.int .i64) (.list 3 (.int .i64))))))) [ys] 0 0]] => some ⟨[], .fn (.func 66) .nl (.cons (.ptr 1 0) (.cons (.ptr 2 0) (.cons (.ptr 3 0) .nl))), [none], [.cells 41 [.lptr 94 (.list 98 TN) [xs] 0 0], .cells 115 [.fn (.func 53) .nl (.cons (.ptr 0 0) .nl)], .cells 23 [.list 3 (.int .i64) q]]⟩
  | _, _ => none
theorem f52_run (R : AV → List Ob → Prop) (xs : List TN.den) (q : List (Ty.int .i64).den) (ys : List TN.den) : fnB tab eJ3 Try.f52 (bodyOf Try.f52) [.lptr 94 (.list 98 TN) [xs] 0 0, .list 3 (.int .i64) q, .fn (.func 53) .nl (.cons (.ptr 0 0) .nl)] [.cells 41 [.lptr 94 (.list 98 TN) [ys] 0 0]] R = (R (AV.fn (Fn.func 66) AV.nl ((AV.ptr 1 0).cons ((AV.ptr 2 0).cons ((AV.ptr 3 0).cons AV.nl)))) [Ob.cells 41 [AV.lptr 94 (Ty.list 98 TN) [ys] 0 0], Ob.cells 41 [AV.lptr 94 (Ty.list 98 TN) [xs] 0 0], Ob.cells 115 [AV.fn (Fn.func 53) AV.nl ((AV.ptr 0 0).cons AV.nl)], Ob.cells 23 [AV.list 3 (Ty.int IntKind.i64) q]]) := by kernel_rfl
theorem ok52 : ConOk2 Try.prog (52, con52) := by
  intro args obs t h hp
  change con52 args obs = some t at h
  unfold con52 at h
  split at h
  · rename_i xs q ys
    change List TN.den at xs
    change List (Ty.int .i64).den at q
    change List TN.den at ys
    cases h
    refine fn_ok2 envJ3 tab_ok mixed Try.func52 (by kernel_rfl) (by kernel_rfl) ?_
    rw [f52_run]
    try dsimp only
    exact ⟨rfl, rfl⟩
  · cases h
def stQ (q : List Int) : List Ev := q.reverse.map fun i => (i, false)
def cntQ (ys : List Nd) (q : List Int) : Nat := cntW (innW ys) 16384 (stQ q)
def evQ (ys : List Nd) (q : List Int) (i : Nat) : Ev := evW (innW ys) (stQ q) i
def endQ (ys : List Nd) (q : List Int) : Prop := stW (innW ys) (cntQ ys q) (stQ q) = []
def con66 : List AV → List AV → List Ob → Option TellsI
  | [], [.ptr 0 0, .ptr 1 0, .ptr 2 0], [.cells 41 [.lptr 94 (.list 98 (.pair (.pair (.int .i64) (.pair (.int .i64) (.pair (.int .i64) (.pair (.int .i64) (.pair (.int .i64) (.pair (.int .i64) (.pair (.pair (.int .i64) (.pair (.int .i64) (.pair (.int .i64) (.int .i64)))) (.pair (.int .i64) (.pair (.int .i64) (.pair (.int .i64) (.int .i64))))))))))) (.pair (.int .i64) (.pair (.int .i64) (.pair (.int .i64) (.list 3 (.int .i64))))))) [xs] 0 0], .cells 115 [.fn (.func 53) .nl (.cons (.ptr 3 0) .nl)], .cells 23 [.list 3 (.int .i64) q], .cells 41 [.lptr 94 (.list 98 (.pair (.pair (.int .i64) (.pair (.int .i64) (.pair (.int .i64) (.pair (.int .i64) (.pair (.int .i64) (.pair (.int .i64) (.pair (.pair (.int .i64) (.pair (.int .i64) (.pair (.int .i64) (.int .i64)))) (.pair (.int .i64) (.pair (.int .i64) (.pair (.int .i64) (.int .i64))))))))))) (.pair (.int .i64) (.pair (.int .i64) (.pair (.int .i64) (.list 3 (.int .i64))))))) [ys] 0 0]] => some ⟨[∀ x ∈ (ys : List Nd), x.2.2.2.2.length ≤ 65536, q.length ≤ 65536, endQ ys q], cntQ ys q, fun i => [.agg (.cons (.int .i64 ((evQ ys q i).1)) (.cons (.bool (evQ ys q i).2) .nl))]⟩
  | _, _, _ => none
theorem f66_run (xs : List TN.den) (q : List (Ty.int .i64).den) (ys : List TN.den) (l : Nat) : fnI tab eJ3 Try.f66 (bodyOf Try.f66) [] [.ptr 0 0, .ptr 1 0, .ptr 2 0] [.cells 41 [.lptr 94 (.list 98 TN) [xs] 0 0], .cells 115 [.fn (.func 53) .nl (.cons (.ptr 3 0) .nl)], .cells 23 [.list 3 (.int .i64) q], .cells 41 [.lptr 94 (.list 98 TN) [ys] 0 0]] l (cntQ ys q) (fun i => [.agg (.cons (.int .i64 ((evQ ys q i).1)) (.cons (.bool (evQ ys q i).2) .nl))]) = (q.length ≤ 65536 ∧ l = l ∧ true = true ∧ false = false ∧ (∀ (x : TN.den), x ∈ ys → List.length x.snd.snd.snd.snd ≤ 65536) ∧ (List.map (fun i => (i, false)) q.reverse).length ≤ 65536 ∧ stW (innW ys) (cntW (innW ys) 16384 (List.map (fun i => (i, false)) q.reverse)) (List.map (fun i => (i, false)) q.reverse) = [] ∧ 0 = 0 ∧ cntW (innW ys) 16384 (List.map (fun i => (i, false)) q.reverse) = cntQ ys q ∧ ((fun i => [((AV.int IntKind.i64 (evW (innW ys) (List.map (fun i => (i, false)) q.reverse) i).fst).cons ((AV.bool (evW (innW ys) (List.map (fun i => (i, false)) q.reverse) i).snd).cons AV.nl)).agg]) = fun i => [((AV.int IntKind.i64 (evQ ys q i).fst).cons ((AV.bool (evQ ys q i).snd).cons AV.nl)).agg]) ∧ (true = true ∧ (false = true ∨ cntW (innW ys) 16384 (List.map (fun i => (i, false)) q.reverse) = cntQ ys q)) ∧ ∀ (y : Nat), true = true ∧ (true = true ∨ y = cntQ ys q)) := by kernel_rfl
set_option maxRecDepth 100000 in
theorem ok66 : ConOk4 Try.prog (66, con66) := by
  intro args caps obs t h hp
  change con66 args caps obs = some t at h
  unfold con66 at h
  split at h
  · rename_i xs q ys
    change List TN.den at xs
    change List (Ty.int .i64).den at q
    change List TN.den at ys
    cases h
    refine fn_okI envJ3 tab_ok mixed Try.func66 (by kernel_rfl) (by kernel_rfl) ?_
    intro l
    rw [f66_run]
    try dsimp only
    have hk := hp (∀ x ∈ (ys : List Nd), x.2.2.2.2.length ≤ 65536) (by simp)
    have h0 := hp (q.length ≤ 65536) (by simp)
    have hfin := hp (endQ ys q) (by simp)
    clear hp
    exact ⟨h0, rfl, rfl, rfl, hk, by rw [List.length_map, List.length_reverse]; exact h0, hfin, rfl, rfl, rfl, ⟨rfl, .inr rfl⟩, fun _ => ⟨rfl, .inl rfl⟩⟩
  · cases h
def topQ (xs : List Nd) (c : Int) : List Int := bif openB (ndAt xs c).1.2.1 then (ndAt xs c).2.2.2.2 else []
def consN0 : Cons := consJ3
def twosN0 : Cons2 := (52, con52) :: twosJ3
def pansN0 : Cons3 := pansJ3
def itersN0 : Cons4 := itersJ3
abbrev eN0 : Env := envOf4 consN0 twosN0 pansN0 itersN0
theorem allconsN0 : ∀ c ∈ consN0, ConOk Try.prog c := allconsJ3
theorem alltwosN0 : ∀ c ∈ twosN0, ConOk2 Try.prog c := all_cons ok52 alltwosJ3
theorem allpansN0 : ∀ c ∈ pansN0, ConOk3 Try.prog c := allpansJ3
theorem allitersN0 : ∀ c ∈ itersN0, ConOk4 Try.prog c := allitersJ3
theorem envN0 : EnvOk Try.prog eN0 := envOf4_ok _ _ _ _ allconsN0 alltwosN0 allpansN0 allitersN0
def con31 : List AV → Option Tells
  | [.lptr 94 (.list 98 (.pair (.pair (.int .i64) (.pair (.int .i64) (.pair (.int .i64) (.pair (.int .i64) (.pair (.int .i64) (.pair (.int .i64) (.pair (.pair (.int .i64) (.pair (.int .i64) (.pair (.int .i64) (.int .i64)))) (.pair (.int .i64) (.pair (.int .i64) (.pair (.int .i64) (.int .i64))))))))))) (.pair (.int .i64) (.pair (.int .i64) (.pair (.int .i64) (.list 3 (.int .i64))))))) [xs] 0 0, .int .i64 c] => some ⟨[(ndAt xs c).2.2.2.2.length ≤ 65536], .fn (.func 66) .nl (.cons (.ptr 0 0) (.cons (.ptr 1 0) (.cons (.ptr 2 0) .nl))), [.cells 41 [.lptr 94 (.list 98 TN) [xs] 0 0], .cells 115 [.fn (.func 53) .nl (.cons (.ptr 3 0) .nl)], .cells 23 [.list 3 (.int .i64) (topQ xs c)], .cells 41 [.lptr 94 (.list 98 TN) [xs] 0 0]]⟩
  | _ => none
set_option maxHeartbeats 2000000 in
theorem f31_run (R : AV → List Ob → Prop) (xs : List TN.den) (c : Int) : fnA tab eN0 Try.f31 (bodyOf Try.f31) [.lptr 94 (.list 98 TN) [xs] 0 0, .int .i64 c] R = (bif blk (openB (ndAt xs c).fst.snd.fst) then (ndAt xs c).snd.snd.snd.snd.length ≤ 65536 ∧ R (AV.fn (Fn.func 66) AV.nl ((AV.ptr 0 0).cons ((AV.ptr 1 0).cons ((AV.ptr 2 0).cons AV.nl)))) [Ob.cells 41 [AV.lptr 94 (Ty.list 98 TN) [xs] 0 0], Ob.cells 115 [AV.fn (Fn.func 53) AV.nl ((AV.ptr 3 0).cons AV.nl)], Ob.cells 23 [AV.list 3 (Ty.int IntKind.i64) (ndAt xs c).snd.snd.snd.snd], Ob.cells 41 [AV.lptr 94 (Ty.list 98 TN) [xs] 0 0]] else R (AV.fn (Fn.func 66) AV.nl ((AV.ptr 0 0).cons ((AV.ptr 1 0).cons ((AV.ptr 2 0).cons AV.nl)))) [Ob.cells 41 [AV.lptr 94 (Ty.list 98 TN) [xs] 0 0], Ob.cells 115 [AV.fn (Fn.func 53) AV.nl ((AV.ptr 3 0).cons AV.nl)], Ob.cells 23 [AV.list 3 (Ty.int IntKind.i64) []], Ob.cells 41 [AV.lptr 94 (Ty.list 98 TN) [xs] 0 0]]) := by kernel_rfl
theorem ok31 : ConOk Try.prog (31, con31) := by
  intro args t h hp
  change con31 args = some t at h
  unfold con31 at h
  split at h
  · rename_i xs c
    change List TN.den at xs
    cases h
    refine fn_ok envN0 tab_ok mixed Try.func31 (by kernel_rfl) (by kernel_rfl) ?_
    rw [f31_run]
    try dsimp only
    have h1 := hp ((ndAt xs c).2.2.2.2.length ≤ 65536) (by simp)
    unfold topQ
    rw [blk_eq]
    refine cond_split (fun h => ?_) (fun h => ?_)
    · rw [h]; exact ⟨h1, rfl, rfl⟩
    · rw [h]; exact ⟨rfl, rfl⟩
  · cases h
def consN1 : Cons := (31, con31) :: consN0
def twosN1 : Cons2 := twosN0
def pansN1 : Cons3 := pansN0
def itersN1 : Cons4 := (66, con66) :: itersN0
abbrev eN1 : Env := envOf4 consN1 twosN1 pansN1 itersN1
theorem allconsN1 : ∀ c ∈ consN1, ConOk Try.prog c := all_cons ok31 allconsN0
theorem alltwosN1 : ∀ c ∈ twosN1, ConOk2 Try.prog c := alltwosN0
theorem allpansN1 : ∀ c ∈ pansN1, ConOk3 Try.prog c := allpansN0
theorem allitersN1 : ∀ c ∈ itersN1, ConOk4 Try.prog c := all_cons ok66 allitersN0
theorem envN1 : EnvOk Try.prog eN1 := envOf4_ok _ _ _ _ allconsN1 alltwosN1 allpansN1 allitersN1
def memQ (ys : List Nd) (q : List Int) : Nat → List Int
  | 0 => []
  | n + 1 => bif !(evQ ys q n).2 then memQ ys q n ++ [(evQ ys q n).1] else memQ ys q n
def memL (xs : List Nd) (c : Int) : List Int := memQ xs (topQ xs c) (cntQ xs (topQ xs c))
def con20 : List AV → Option Tells
  | [.lptr 94 (.list 98 (.pair (.pair (.int .i64) (.pair (.int .i64) (.pair (.int .i64) (.pair (.int .i64) (.pair (.int .i64) (.pair (.int .i64) (.pair (.pair (.int .i64) (.pair (.int .i64) (.pair (.int .i64) (.int .i64)))) (.pair (.int .i64) (.pair (.int .i64) (.pair (.int .i64) (.int .i64))))))))))) (.pair (.int .i64) (.pair (.int .i64) (.pair (.int .i64) (.list 3 (.int .i64))))))) [xs] 0 0, .int .i64 c] => some ⟨[∀ x ∈ (xs : List Nd), x.2.2.2.2.length ≤ 65536, endQ xs (topQ xs c)], .row 0, [.row 3 (.int .i64) (memL xs c)]⟩
  | _ => none
def f20_live1 : List Nat := [10, 6, 5, 6, 5, 5, 4]
def f20_head1  (o2 : List Int) : St := { slots := List.replicate 4 AV.undef ++ [AV.row 0, AV.ptr 1 0] ++ List.replicate 14 AV.undef, obs := [Ob.row 3 (Ty.int IntKind.i64) [], Ob.cells 23 [AV.row 2], Ob.row 3 (Ty.int IntKind.i64) o2] }
def f20_q1 (R : AV → List Ob → Prop) : Ex → St → Prop := blockA 0 (seqQ tab eN1 (subC [1, 1, 1] (bodyOf Try.f20)) [4] (endA tab Try.f20 R))
def f20_run1 (xs : List TN.den) (c : Int) : Nat → St → (Ex → St → Prop) → Prop := fun i t K => [((AV.int IntKind.i64 (evQ xs (topQ xs c) i).fst).cons ((AV.bool (evQ xs (topQ xs c) i).snd).cons AV.nl)).agg].length = [10].length ∧ codeA tab eN1 (subC [1, 1, 0, 1, 0, 0] (bodyOf Try.f20)) [6, 5, 6, 5, 10, 5, 4] (roundSt [10] [((AV.int IntKind.i64 (evQ xs (topQ xs c) i).fst).cons ((AV.bool (evQ xs (topQ xs c) i).snd).cons AV.nl)).agg] t) (seqN tab eN1 (subC [1, 1, 0, 1, 0, 1] (bodyOf Try.f20)) [10, 6, 5, 6, 5, 5, 4] K)
def f20_range1 (R : AV → List Ob → Prop) (xs : List TN.den) (c : Int) (o2 : List Int) : Prop := rangeT f20_live1 (f20_run1 xs c) (cntQ xs (topQ xs c)) (f20_head1 o2) (f20_q1 R)
def f20_rhs1 (R : AV → List Ob → Prop) (xs : List TN.den) (c : Int) (J : Nat → St → Prop) (i : Nat) (o2 : List Int) : Prop := [((AV.int IntKind.i64 (evQ xs (topQ xs c) i).fst).cons ((AV.bool (evQ xs (topQ xs c) i).snd).cons AV.nl)).agg].length = [10].length ∧ bif !(evQ xs (topQ xs c) i).snd then (o2.length + 1) * 8 ≤ 140737488355328 ∧ J (i + 1) (f20_head1 (o2 ++ [(evQ xs (topQ xs c) i).fst])) else J (i + 1) (f20_head1 o2)
theorem f20_eq1 (R : AV → List Ob → Prop) (xs : List TN.den) (c : Int) (J : Nat → St → Prop) (i : Nat) (o2 : List Int) : f20_run1 xs c i (f20_head1 o2) (roundK f20_live1 J (f20_q1 R) i (f20_head1 o2)) = f20_rhs1 R xs c J i o2 := by kernel_rfl
def f20_end1 (R : AV → List Ob → Prop) (xs : List TN.den) (c : Int) (o2 : List Int) : Prop := R (AV.row 0) [Ob.row 3 (Ty.int IntKind.i64) o2]
theorem f20_eqe1 (R : AV → List Ob → Prop) (xs : List TN.den) (c : Int) (o2 : List Int) : f20_q1 R Ex.normal (f20_head1 o2) = f20_end1 R xs c o2 := by kernel_rfl
theorem f20_rule1 (R : AV → List Ob → Prop) (xs : List TN.den) (c : Int) (I : Nat → (List Int) → Prop) (o2 : List Int) (h0 : I 0 o2) (h : ∀ i, ∀ (o2 : List Int), i < cntQ xs (topQ xs c) → I i o2 → f20_rhs1 R xs c (fun n t => ∃ (o2 : List Int), t = f20_head1  o2 ∧ I n o2) i o2) (hend : ∀ (o2 : List Int), I (cntQ xs (topQ xs c)) o2 → f20_end1 R xs c o2) : f20_range1 R xs c o2 :=
  range_intro (fun n t => ∃ (o2 : List Int), t = f20_head1  o2 ∧ I n o2) ⟨o2, rfl, h0⟩ (fun i t hi ht => by obtain ⟨o2, rfl, hI⟩ := ht; exact Eq.mpr (f20_eq1 R xs c (fun n t => ∃ (o2 : List Int), t = f20_head1  o2 ∧ I n o2) i o2) (h i o2 hi hI)) (fun t ht => by obtain ⟨o2, rfl, hI⟩ := ht; exact Eq.mpr (f20_eqe1 R xs c o2) (hend o2 hI))
theorem f20_run (R : AV → List Ob → Prop) (xs : List TN.den) (c : Int) : fnA tab eN1 Try.f20 (bodyOf Try.f20) [.lptr 94 (.list 98 TN) [xs] 0 0, .int .i64 c] R = ((ndAt xs c).snd.snd.snd.snd.length ≤ 65536 ∧ (∀ (x : TN.den), x ∈ xs → List.length x.snd.snd.snd.snd ≤ 65536) ∧ (topQ xs c).length ≤ 65536 ∧ endQ xs (topQ xs c) ∧ f20_range1 R xs c []) := by kernel_rfl
theorem ok20 : ConOk Try.prog (20, con20) := by
  intro args t h hp
  change con20 args = some t at h
  unfold con20 at h
  split at h
  · rename_i xs c
    change List TN.den at xs
    cases h
    refine fn_okG envN1 tab_ok mixed Try.func20 (by kernel_rfl) (by kernel_rfl) ?_
    rw [f20_run]
    try dsimp only
    have hk := hp (∀ x ∈ (xs : List Nd), x.2.2.2.2.length ≤ 65536) (by simp)
    have hfin := hp (endQ xs (topQ xs c)) (by simp)
    clear hp
    have htop : (topQ xs c).length ≤ 65536 := by
      unfold topQ
      cases openB (ndAt xs c).1.2.1 with
      | true => exact ndAt_kids hk c
      | false => exact Nat.zero_le _
    refine ⟨ndAt_kids hk c, hk, htop, hfin, ?_⟩
    have hcnt : cntQ xs (topQ xs c) ≤ 16384 := cntW_le _ _ _
    refine f20_rule1 _ xs c (fun i o => o = memQ xs (topQ xs c) i ∧ o.length ≤ i) [] ⟨rfl, by simp⟩ ?_ ?_
    · rintro i o hi ⟨rfl, hl⟩
      unfold f20_rhs1
      refine ⟨rfl, cond_split (fun h => ?_) (fun h => ?_)⟩
      · refine ⟨by omega, _, rfl, ?_, ?_⟩
        · show _ = bif _ then _ else _
          rw [h]; rfl
        · rw [List.length_append, List.length_singleton]; omega
      · refine ⟨_, rfl, ?_, by omega⟩
        show _ = bif _ then _ else _
        rw [h]; rfl
    · rintro o ⟨rfl, _⟩
      unfold f20_end1
      exact .refl _ _
  · cases h
end
end Go.Proofs.Ytkpjcmiijlpcaaa.W
