/- The functions of layer 6 (tree), and what they come to: building. -/
import Derived.Test.YtkpjcmiijlpcaaaWa
import Derived.Test.YtkpjcmiijlpcaaaEa
import Derived.Test.YtkpjcmiijlpcaaaFa
import Derived.Test.YtkpjcmiijlpcaaaAwAE
import Derived.Test.YtkpjcmiijlpcaaaAwAF
import Derived.Test.YtkpjcmiijlpcaaaAwZ
import Derived.KernelRfl
set_option linter.unusedVariables false
set_option linter.unusedSimpArgs false
namespace Go.Proofs.Ytkpjcmiijlpcaaa.W
open Go Go.Proofs Go.Proofs.Ytkpjcmiijlpcaaa.Aw
noncomputable section
abbrev TNo : Ty := .pair TB (.pair (.int .i64) (.pair (.int .i64) (.pair (.int .i64) (.ol 3 (.int .i64)))))
abbrev TN : Ty := .pair TB (.pair (.int .i64) (.pair (.int .i64) (.pair (.int .i64) (.list 3 (.int .i64)))))
abbrev Nd := Bx × Int × Int × Int × List Int
def tabN : Tab := (tab.tell 98 TNo).tellZ 94 98 TNo
theorem tabN_ok : TabOk Try.prog tabN := (tab_ok.tell _ _).tellZ _ _ _
abbrev zNd : Nd := ((0, 0, 0, 0, 0, 0, (0, 0, 0, 0), 0, 0, 0, 0), 0, 0, 0, [])
def fitsB (a1 a2 : Int) : Bool := match con56 [.int .i64 a1, .int .i64 a2] with
  | some ⟨_, .bool b, _⟩ => b
  | _ => false
def con56_b : List AV → Option Tells
  | [.int .i64 a1, .int .i64 a2] => some ⟨[], .bool (blk (fitsB a1 a2)), []⟩
  | _ => none
theorem ok56_b : ConOk Try.prog (56, con56_b) := by
  intro args t h hp
  simp only [con56_b] at h
  split at h
  · rename_i a1 a2
    cases h
    show ACalls _ _ _ (.bool (blk _)) []
    rw [blk_eq]
    exact ok56 [.int .i64 a1, .int .i64 a2] ⟨[], .bool (fitsB a1 a2), []⟩ rfl (fun p h => by cases h)
  · cases h
def openB (a1 : Int) : Bool := match con50 [.int .i64 a1] with
  | some ⟨_, .bool b, _⟩ => b
  | _ => false
def con50_b : List AV → Option Tells
  | [.int .i64 a1] => some ⟨[], .bool (blk (openB a1)), []⟩
  | _ => none
theorem ok50_b : ConOk Try.prog (50, con50_b) := by
  intro args t h hp
  simp only [con50_b] at h
  split at h
  · rename_i a1
    cases h
    show ACalls _ _ _ (.bool (blk _)) []
    rw [blk_eq]
    exact ok50 [.int .i64 a1] ⟨[], .bool (openB a1), []⟩ rfl (fun p h => by cases h)
  · cases h
def rootB (a1 a2 a4 a5 a7 a8 a9 a10 : Int) : Bool := a1 == 0 && (a2 == 3 && (decide (a5 ≥ 0) && ((a7 == 0 && (a8 == 0 && (a9 == 0 && (a10 == 0 && true)))) && a4 == 0)))
def chkT (n : Nat) (k : Int) (a1 a2 a3 a4 a5 a6 a7 a8 a9 a10 a11 a12 a13 a14 p : Int) : Int :=
  bif (n : Int) == 65536 then 3 else bif chkB a1 a2 a3 a4 a5 a6 a7 a8 a9 a10 a11 a12 a13 a14 != 0 then chkB a1 a2 a3 a4 a5 a6 a7 a8 a9 a10 a11 a12 a13 a14
  else bif (bif (n : Int) == 0 then rootB a1 a2 a4 a5 a7 a8 a9 a10 else bif decide (p ≥ 0) then fitsB k a2 else false) then 0 else 12
def withinT (n : Nat) (k c p : Int) : Int := bif decide (p < 0) then 0 else bif openB k then p else c
theorem root_all (c1 c2 c3 c4 c5 : Bool) (o o' : List Ob) (ho : o = o') : bif c1 then bif c2 then bif c3 then bif c4 then bif !c5 then (AV.int .i64 12 = AV.int .i64 (bif (c1 && (c2 && (c3 && (c4 && c5)))) then 0 else 12) ∧ o = o') else (AV.int .i64 0 = AV.int .i64 (bif (c1 && (c2 && (c3 && (c4 && c5)))) then 0 else 12) ∧ o = o') else (AV.int .i64 12 = AV.int .i64 (bif (c1 && (c2 && (c3 && (c4 && c5)))) then 0 else 12) ∧ o = o') else (AV.int .i64 12 = AV.int .i64 (bif (c1 && (c2 && (c3 && (c4 && c5)))) then 0 else 12) ∧ o = o') else (AV.int .i64 12 = AV.int .i64 (bif (c1 && (c2 && (c3 && (c4 && c5)))) then 0 else 12) ∧ o = o') else (AV.int .i64 12 = AV.int .i64 (bif (c1 && (c2 && (c3 && (c4 && c5)))) then 0 else 12) ∧ o = o') := by
  cases c1 <;> cases c2 <;> cases c3 <;> cases c4 <;> cases c5 <;> exact ⟨rfl, ho⟩
def consG0 : Cons := (55, con55) :: (50, con50_b) :: (56, con56_b) :: []
def twosG0 : Cons2 := []
def pansG0 : Cons3 := []
def itersG0 : Cons4 := []
abbrev eG0 : Env := envOf4 consG0 twosG0 pansG0 itersG0
theorem allconsG0 : ∀ c ∈ consG0, ConOk Try.prog c := all_cons ok55 (all_cons ok50_b (all_cons ok56_b all_nil))
theorem alltwosG0 : ∀ c ∈ twosG0, ConOk2 Try.prog c := all_nil
theorem allpansG0 : ∀ c ∈ pansG0, ConOk3 Try.prog c := all_nil
theorem allitersG0 : ∀ c ∈ itersG0, ConOk4 Try.prog c := all_nil
theorem envG0 : EnvOk Try.prog eG0 := envOf4_ok _ _ _ _ allconsG0 alltwosG0 allpansG0 allitersG0
def con37 : List AV → List Ob → Option Tells2
  | [.ptr 0 0, .int .i64 p], [.cells 94 [.row 1], .orow 98 (.pair (.pair (.int .i64) (.pair (.int .i64) (.pair (.int .i64) (.pair (.int .i64) (.pair (.int .i64) (.pair (.int .i64) (.pair (.pair (.int .i64) (.pair (.int .i64) (.pair (.int .i64) (.int .i64)))) (.pair (.int .i64) (.pair (.int .i64) (.pair (.int .i64) (.int .i64))))))))))) (.pair (.int .i64) (.pair (.int .i64) (.pair (.int .i64) (.ol 3 (.int .i64)))))) xs] => some ⟨[p < xs.length], .int .i64 (blk (withinT xs.length (xs.getD p.toNat zNd).1.2.1 (xs.getD p.toNat zNd).2.2.2.1 p)), [none, none], []⟩
  | _, _ => none
set_option maxHeartbeats 2000000 in
theorem f37_run (R : AV → List Ob → Prop) (p : Int) (xs : List TNo.den) : fnB tabN eG0 Try.f37 (bodyOf Try.f37) [.ptr 0 0, .int .i64 p] [.cells 94 [.row 1], .orow 98 TNo xs] R = (bif decide (p < 0) then R (AV.int IntKind.i64 0) [Ob.cells 94 [AV.row 1], Ob.orow 98 (TB.pair ((Ty.int IntKind.i64).pair ((Ty.int IntKind.i64).pair ((Ty.int IntKind.i64).pair (Ty.ol 3 (Ty.int IntKind.i64)))))) xs] else 0 ≤ p ∧ p < (↑xs.length : Int) ∧ bif blk (openB (xs.getD p.toNat ((0, 0, 0, 0, 0, 0, (0, 0, 0, 0), 0, 0, 0, 0), 0, 0, 0, [])).fst.snd.fst) then R (AV.int IntKind.i64 p) [Ob.cells 94 [AV.row 1], Ob.orow 98 (TB.pair ((Ty.int IntKind.i64).pair ((Ty.int IntKind.i64).pair ((Ty.int IntKind.i64).pair (Ty.ol 3 (Ty.int IntKind.i64)))))) xs] else 0 ≤ p ∧ p < (↑xs.length : Int) ∧ R (AV.int IntKind.i64 (xs.getD p.toNat ((0, 0, 0, 0, 0, 0, (0, 0, 0, 0), 0, 0, 0, 0), 0, 0, 0, [])).snd.snd.snd.fst) [Ob.cells 94 [AV.row 1], Ob.orow 98 (TB.pair ((Ty.int IntKind.i64).pair ((Ty.int IntKind.i64).pair ((Ty.int IntKind.i64).pair (Ty.ol 3 (Ty.int IntKind.i64)))))) xs]) := by kernel_rfl
theorem ok37 : ConOk2 Try.prog (37, con37) := by
  intro args obs t h hp
  simp only [con37] at h
  split at h
  · rename_i p xs
    change List TNo.den at xs
    cases h
    refine fn_ok2 envG0 tabN_ok mixed Try.func37 (by kernel_rfl) (by kernel_rfl) ?_
    rw [f37_run]
    try dsimp only
    have hx := hp (p < xs.length) (by simp)
    rw [blk_eq, blk_eq]
    unfold withinT
    refine cond_split (fun h => ?_) (fun h => ?_)
    · rw [h]; exact ⟨rfl, rfl⟩
    · have h' : ¬ p < 0 := of_decide_eq_false h
      rw [h]
      refine ⟨by omega, hx, cond_split (fun h2 => ?_) (fun h2 => ?_)⟩
      · rw [show openB _ = true from h2]; exact ⟨rfl, rfl⟩
      · rw [show openB _ = false from h2]; exact ⟨by omega, hx, rfl, rfl⟩
  · cases h
def con36 : List AV → List Ob → Option Tells2
  | [.ptr 0 0, .agg (.cons (.int .i64 a1) (.cons (.int .i64 a2) (.cons (.int .i64 a3) (.cons (.int .i64 a4) (.cons (.int .i64 a5) (.cons (.int .i64 a6) (.cons (.int .i64 a7) (.cons (.int .i64 a8) (.cons (.int .i64 a9) (.cons (.int .i64 a10) (.cons (.int .i64 a11) (.cons (.int .i64 a12) (.cons (.int .i64 a13) (.cons (.int .i64 a14) .nl)))))))))))))), .int .i64 p], [.cells 94 [.row 1], .orow 98 (.pair (.pair (.int .i64) (.pair (.int .i64) (.pair (.int .i64) (.pair (.int .i64) (.pair (.int .i64) (.pair (.int .i64) (.pair (.pair (.int .i64) (.pair (.int .i64) (.pair (.int .i64) (.int .i64)))) (.pair (.int .i64) (.pair (.int .i64) (.pair (.int .i64) (.int .i64))))))))))) (.pair (.int .i64) (.pair (.int .i64) (.pair (.int .i64) (.ol 3 (.int .i64)))))) xs] => some ⟨[p < xs.length], .int .i64 (blk (chkT xs.length (xs.getD p.toNat zNd).1.2.1 a1 a2 a3 a4 a5 a6 a7 a8 a9 a10 a11 a12 a13 a14 p)), [none, none], []⟩
  | _, _ => none
set_option maxHeartbeats 2000000 in
theorem f36_run (R : AV → List Ob → Prop) (a1 a2 a3 a4 a5 a6 a7 a8 a9 a10 a11 a12 a13 a14 p : Int) (xs : List TNo.den) : fnB tabN eG0 Try.f36 (bodyOf Try.f36) [.ptr 0 0, .agg (.cons (.int .i64 a1) (.cons (.int .i64 a2) (.cons (.int .i64 a3) (.cons (.int .i64 a4) (.cons (.int .i64 a5) (.cons (.int .i64 a6) (.cons (.int .i64 a7) (.cons (.int .i64 a8) (.cons (.int .i64 a9) (.cons (.int .i64 a10) (.cons (.int .i64 a11) (.cons (.int .i64 a12) (.cons (.int .i64 a13) (.cons (.int .i64 a14) .nl)))))))))))))), .int .i64 p] [.cells 94 [.row 1], .orow 98 TNo xs] R = (bif (↑xs.length : Int) == 65536 then R (AV.int IntKind.i64 3) [Ob.cells 94 [AV.row 1], Ob.orow 98 (TB.pair ((Ty.int IntKind.i64).pair ((Ty.int IntKind.i64).pair ((Ty.int IntKind.i64).pair (Ty.ol 3 (Ty.int IntKind.i64)))))) xs] else bif blk (chkB a1 a2 a3 a4 a5 a6 a7 a8 a9 a10 a11 a12 a13 a14) != 0 then R (AV.int IntKind.i64 (blk (chkB a1 a2 a3 a4 a5 a6 a7 a8 a9 a10 a11 a12 a13 a14))) [Ob.cells 94 [AV.row 1], Ob.orow 98 (TB.pair ((Ty.int IntKind.i64).pair ((Ty.int IntKind.i64).pair ((Ty.int IntKind.i64).pair (Ty.ol 3 (Ty.int IntKind.i64)))))) xs] else bif (↑xs.length : Int) == 0 then bif a1 == 0 then bif a2 == 3 then bif decide (a5 ≥ 0) then bif a7 == 0 && (a8 == 0 && (a9 == 0 && (a10 == 0 && true))) then bif !a4 == 0 then R (AV.int IntKind.i64 12) [Ob.cells 94 [AV.row 1], Ob.orow 98 (TB.pair ((Ty.int IntKind.i64).pair ((Ty.int IntKind.i64).pair ((Ty.int IntKind.i64).pair (Ty.ol 3 (Ty.int IntKind.i64)))))) xs] else R (AV.int IntKind.i64 0) [Ob.cells 94 [AV.row 1], Ob.orow 98 (TB.pair ((Ty.int IntKind.i64).pair ((Ty.int IntKind.i64).pair ((Ty.int IntKind.i64).pair (Ty.ol 3 (Ty.int IntKind.i64)))))) xs] else R (AV.int IntKind.i64 12) [Ob.cells 94 [AV.row 1], Ob.orow 98 (TB.pair ((Ty.int IntKind.i64).pair ((Ty.int IntKind.i64).pair ((Ty.int IntKind.i64).pair (Ty.ol 3 (Ty.int IntKind.i64)))))) xs] else R (AV.int IntKind.i64 12) [Ob.cells 94 [AV.row 1], Ob.orow 98 (TB.pair ((Ty.int IntKind.i64).pair ((Ty.int IntKind.i64).pair ((Ty.int IntKind.i64).pair (Ty.ol 3 (Ty.int IntKind.i64)))))) xs] else R (AV.int IntKind.i64 12) [Ob.cells 94 [AV.row 1], Ob.orow 98 (TB.pair ((Ty.int IntKind.i64).pair ((Ty.int IntKind.i64).pair ((Ty.int IntKind.i64).pair (Ty.ol 3 (Ty.int IntKind.i64)))))) xs] else R (AV.int IntKind.i64 12) [Ob.cells 94 [AV.row 1], Ob.orow 98 (TB.pair ((Ty.int IntKind.i64).pair ((Ty.int IntKind.i64).pair ((Ty.int IntKind.i64).pair (Ty.ol 3 (Ty.int IntKind.i64)))))) xs] else bif decide (p ≥ 0) then 0 ≤ p ∧ p < (↑xs.length : Int) ∧ bif !blk (fitsB (xs.getD p.toNat ((0, 0, 0, 0, 0, 0, (0, 0, 0, 0), 0, 0, 0, 0), 0, 0, 0, [])).fst.snd.fst a2) then R (AV.int IntKind.i64 12) [Ob.cells 94 [AV.row 1], Ob.orow 98 (TB.pair ((Ty.int IntKind.i64).pair ((Ty.int IntKind.i64).pair ((Ty.int IntKind.i64).pair (Ty.ol 3 (Ty.int IntKind.i64)))))) xs] else R (AV.int IntKind.i64 0) [Ob.cells 94 [AV.row 1], Ob.orow 98 (TB.pair ((Ty.int IntKind.i64).pair ((Ty.int IntKind.i64).pair ((Ty.int IntKind.i64).pair (Ty.ol 3 (Ty.int IntKind.i64)))))) xs] else R (AV.int IntKind.i64 12) [Ob.cells 94 [AV.row 1], Ob.orow 98 (TB.pair ((Ty.int IntKind.i64).pair ((Ty.int IntKind.i64).pair ((Ty.int IntKind.i64).pair (Ty.ol 3 (Ty.int IntKind.i64)))))) xs]) := by kernel_rfl
theorem ok36 : ConOk2 Try.prog (36, con36) := by
  intro args obs t h hp
  simp only [con36] at h
  split at h
  · rename_i a1 a2 a3 a4 a5 a6 a7 a8 a9 a10 a11 a12 a13 a14 p xs
    change List TNo.den at xs
    cases h
    refine fn_ok2 envG0 tabN_ok mixed Try.func36 (by kernel_rfl) (by kernel_rfl) ?_
    rw [f36_run]
    try dsimp only
    have hx := hp (p < xs.length) (by simp)
    rw [blk_eq, blk_eq, blk_eq]
    unfold chkT
    refine cond_split (fun h => ?_) (fun h => ?_)
    · rw [h]; exact ⟨rfl, rfl⟩
    rw [h]
    refine cond_split (fun h => ?_) (fun h => ?_)
    · rw [h]; exact ⟨rfl, rfl⟩
    rw [h]
    refine cond_split (fun h => ?_) (fun h => ?_)
    · rw [h]
      exact root_all _ _ _ _ _ _ _ rfl
    rw [h]
    simp only [cond_false]
    refine cond_split (fun h1 => ?_) (fun h1 => ?_)
    · have h2 : p ≥ 0 := of_decide_eq_true h1
      rw [h1]
      refine ⟨h2, hx, ?_⟩
      refine cond_split (fun h3 => ?_) (fun h3 => ?_)
      · rw [show fitsB _ a2 = false from by simpa using h3]; exact ⟨rfl, rfl⟩
      · rw [show fitsB _ a2 = true from by simpa using h3]; exact ⟨rfl, rfl⟩
    · rw [h1]
      exact ⟨rfl, rfl⟩
  · cases h
def consG1 : Cons := consG0
def twosG1 : Cons2 := (37, con37) :: (36, con36) :: twosG0
def pansG1 : Cons3 := pansG0
def itersG1 : Cons4 := itersG0
abbrev eG1 : Env := envOf4 consG1 twosG1 pansG1 itersG1
theorem allconsG1 : ∀ c ∈ consG1, ConOk Try.prog c := allconsG0
theorem alltwosG1 : ∀ c ∈ twosG1, ConOk2 Try.prog c := all_cons ok37 (all_cons ok36 alltwosG0)
theorem allpansG1 : ∀ c ∈ pansG1, ConOk3 Try.prog c := allpansG0
theorem allitersG1 : ∀ c ∈ itersG1, ConOk4 Try.prog c := allitersG0
theorem envG1 : EnvOk Try.prog eG1 := envOf4_ok _ _ _ _ allconsG1 alltwosG1 allpansG1 allitersG1
abbrev zBx : Bx := (0, 0, 0, 0, 0, 0, (0, 0, 0, 0), 0, 0, 0, 0)
def parN (path : List Int) (d : Int) : Int := bif decide (d ≥ 1) then bif decide (d ≤ (path.length : Int)) then path.getD (d - 1).toNat 0 else -1 else -1
def chkN (xs : List Nd) (b : Bx) (p : Int) : Int := chkT xs.length (xs.getD p.toNat zNd).1.2.1 b.1 b.2.1 b.2.2.1 b.2.2.2.1 b.2.2.2.2.1 b.2.2.2.2.2.1 b.2.2.2.2.2.2.1.1 b.2.2.2.2.2.2.1.2.1 b.2.2.2.2.2.2.1.2.2.1 b.2.2.2.2.2.2.1.2.2.2 b.2.2.2.2.2.2.2.1 b.2.2.2.2.2.2.2.2.1 b.2.2.2.2.2.2.2.2.2.1 b.2.2.2.2.2.2.2.2.2.2 p
def addN (xs : List Nd) (b : Bx) (p : Int) : List Nd := xs ++ [(b, p, 0, withinT xs.length (xs.getD p.toNat zNd).1.2.1 (xs.getD p.toNat zNd).2.2.2.1 p, [])]
def kidN (xs : List Nd) (p i : Int) : List Nd := bif decide (p ≥ 0) then xs.set p.toNat ((xs.getD p.toNat zNd).1, (xs.getD p.toNat zNd).2.1, (xs.getD p.toNat zNd).2.2.1, (xs.getD p.toNat zNd).2.2.2.1, (xs.getD p.toNat zNd).2.2.2.2 ++ [i]) else xs
def endN (e : Int) (xs : List Nd) (k : Int) : List Nd := xs.set k.toNat ((xs.getD k.toNat zNd).1, (xs.getD k.toNat zNd).2.1, e, (xs.getD k.toNat zNd).2.2.2)
def stepN (s : List Nd × List Int) (b : Bx) (i : Nat) : List Nd × List Int :=
  ((s.2.take b.1.toNat ++ [(i : Int)]).foldl (endN ((i + 1 : Nat) : Int)) (kidN (addN s.1 b (parN s.2 b.1)) (parN s.2 b.1) i), s.2.take b.1.toNat ++ [(i : Int)])
def buildN : List Bx → Nat → List Nd × List Int → Option (List Nd)
  | [], _, s => some s.1
  | b :: r, i, s => bif chkN s.1 b (parN s.2 b.1) != 0 then none else buildN r (i + 1) (stepN s b i)
structure InvN (k : Nat) (s : List Nd × List Int) : Prop where
  len : s.1.length = k
  path : s.2.length ≤ k
  el : ∀ x ∈ s.2, 0 ≤ x ∧ x < k
  kid : ∀ x ∈ s.1, x.2.2.2.2.length ≤ k
theorem kidN_len (xs : List Nd) (p i : Int) : (kidN xs p i).length = xs.length := by
  unfold kidN
  cases decide (p ≥ 0) <;> simp
theorem endN_len (e : Int) (xs : List Nd) (k : Int) : (endN e xs k).length = xs.length := by simp [endN]
theorem ends_len (e : Int) : ∀ (l : List Int) (xs : List Nd), (l.foldl (endN e) xs).length = xs.length
  | [], _ => rfl
  | k :: l, xs => by rw [List.foldl_cons, ends_len e l, endN_len]
theorem getD_mem {α : Type} {xs : List α} {d : α} {i : Nat} (h : i < xs.length) : xs.getD i d ∈ xs := by
  rw [getD_nat' _ _ _ h]
  exact List.getElem_mem h
theorem kidN_kid {xs : List Nd} {p i : Int} {m : Nat} (hp : p < xs.length) (h : ∀ x ∈ xs, x.2.2.2.2.length ≤ m) : ∀ x ∈ kidN xs p i, x.2.2.2.2.length ≤ m + 1 := by
  unfold kidN
  cases hd : decide (p ≥ 0) with
  | false => exact fun x hx => Nat.le_succ_of_le (h x hx)
  | true =>
    have hd := of_decide_eq_true hd
    intro x hx
    rw [cond_true] at hx
    rcases List.mem_or_eq_of_mem_set hx with hx | rfl
    · exact Nat.le_succ_of_le (h x hx)
    · simp only [List.length_append, List.length_singleton]
      exact Nat.succ_le_succ (h _ (getD_mem (by omega)))
theorem endN_kid {e : Int} {xs : List Nd} {k : Int} {m : Nat} (h : ∀ x ∈ xs, x.2.2.2.2.length ≤ m) : ∀ x ∈ endN e xs k, x.2.2.2.2.length ≤ m := by
  intro x hx
  rcases List.mem_or_eq_of_mem_set hx with hx | rfl
  · exact h x hx
  · show (xs.getD k.toNat zNd).2.2.2.2.length ≤ m
    by_cases hk : k.toNat < xs.length
    · exact h _ (getD_mem hk)
    · have : (xs.getD k.toNat zNd) = zNd := by simp [List.getD, List.getElem?_eq_none (by omega : xs.length ≤ k.toNat)]
      rw [this]
      exact Nat.zero_le _
theorem ends_kid {e : Int} {m : Nat} : ∀ (l : List Int) (xs : List Nd), (∀ x ∈ xs, x.2.2.2.2.length ≤ m) → ∀ x ∈ l.foldl (endN e) xs, x.2.2.2.2.length ≤ m
  | [], _, h => h
  | _ :: l, xs, h => ends_kid l _ (endN_kid h)
theorem parN_lt {k : Nat} {s : List Nd × List Int} (h : InvN k s) (d : Int) : parN s.2 d < s.1.length ∧ (parN s.2 d ≥ 0 → 1 ≤ d ∧ d ≤ s.2.length) ∧ (d ≥ 1 → d ≤ s.2.length → parN s.2 d = s.2.getD (d - 1).toNat 0) ∧ -1 ≤ parN s.2 d := by
  have hl := h.len
  unfold parN
  by_cases h1 : d ≥ 1
  · rw [decide_eq_true h1, cond_true]
    by_cases h2 : d ≤ (s.2.length : Int)
    · rw [decide_eq_true h2, cond_true]
      have := h.el _ (getD_mem (xs := s.2) (d := 0) (i := (d - 1).toNat) (by omega))
      exact ⟨by omega, fun _ => ⟨h1, h2⟩, fun _ _ => rfl, by omega⟩
    · rw [decide_eq_false h2, cond_false]
      exact ⟨by omega, fun h => by omega, fun _ h => absurd h h2, by omega⟩
  · rw [decide_eq_false h1, cond_false]
    exact ⟨by omega, fun h => by omega, fun h => absurd h h1, by omega⟩
theorem par_split {P : Int → Prop} {o1 : List Int} {d : Int} (hmax : o1.length ≤ 65536) (h : P (parN o1 d)) : bif decide (d ≥ 1) then bif decide (d ≤ (o1.length : Int)) then 0 ≤ IntKind.wrap .i64 (d - 1) ∧ IntKind.wrap .i64 (d - 1) < (o1.length : Int) ∧ P (o1.getD (IntKind.wrap .i64 (d - 1)).toNat 0) else P (-1) else P (-1) := by
  unfold parN at h
  refine dec_split (fun h1 => ?_) (fun h1 => ?_)
  · rw [decide_eq_true h1, cond_true] at h
    refine dec_split (fun h2 => ?_) (fun h2 => ?_)
    · rw [decide_eq_true h2, cond_true] at h
      rw [wrap_id _ (by omega)]
      exact ⟨by omega, by omega, h⟩
    · rw [decide_eq_false h2, cond_false] at h
      exact h
  · rw [decide_eq_false h1, cond_false] at h
    exact h
theorem chk_depth {k : Nat} {s : List Nd × List Int} (h : InvN k s) {b : Bx} (hc : chkN s.1 b (parN s.2 b.1) = 0) : 0 ≤ b.1 ∧ b.1 ≤ s.2.length ∧ k ≠ 65536 := by
  unfold chkN chkT at hc
  have hl := h.len
  rw [hl] at hc
  cases h1 : ((k : Int) == 65536) with
  | true => rw [h1, cond_true] at hc; cases hc
  | false =>
    have h1' : k ≠ 65536 := by simpa using fun e : k = 65536 => by rw [e] at h1; simp at h1
    rw [h1, cond_false] at hc
    generalize chkB _ _ _ _ _ _ _ _ _ _ _ _ _ _ = c at hc
    cases h2 : (c != 0) with
    | true => rw [h2, cond_true] at hc; rw [hc] at h2; simp at h2
    | false =>
      rw [h2, cond_false] at hc
      cases h3 : ((k : Int) == 0) with
      | true =>
        rw [h3, cond_true] at hc
        cases h4 : rootB b.1 b.2.1 b.2.2.2.1 b.2.2.2.2.1 b.2.2.2.2.2.2.1.1 b.2.2.2.2.2.2.1.2.1 b.2.2.2.2.2.2.1.2.2.1 b.2.2.2.2.2.2.1.2.2.2 with
        | false => rw [h4] at hc; cases hc
        | true =>
          have : b.1 = 0 := by
            unfold rootB at h4
            simp only [Bool.and_eq_true, beq_iff_eq] at h4
            exact h4.1
          exact ⟨by omega, by omega, h1'⟩
      | false =>
        rw [h3, cond_false] at hc
        cases h4 : decide (parN s.2 b.1 ≥ 0) with
        | false => rw [h4] at hc; cases hc
        | true =>
          have := (parN_lt h b.1).2.1 (of_decide_eq_true h4)
          exact ⟨by omega, this.2, h1'⟩
theorem invN_step {k : Nat} {s : List Nd × List Int} (h : InvN k s) {b : Bx} (hc : chkN s.1 b (parN s.2 b.1) = 0) : InvN (k + 1) (stepN s b k) := by
  obtain ⟨h1, h2, _⟩ := chk_depth h hc
  have hl := h.len
  have hp := (parN_lt h b.1).1
  refine ⟨?_, ?_, ?_, ?_⟩
  · simp only [stepN, ends_len, kidN_len, addN, List.length_append, List.length_singleton, hl]
  · simp only [stepN, List.length_append, List.length_take, List.length_singleton]
    have := h.path
    omega
  · intro x hx
    simp only [stepN, List.mem_append, List.mem_singleton] at hx
    rcases hx with hx | rfl
    · have := h.el x (List.mem_of_mem_take hx); omega
    · omega
  · simp only [stepN]
    refine ends_kid _ _ (kidN_kid (by simp only [addN, List.length_append, List.length_singleton]; omega) ?_)
    intro x hx
    simp only [addN, List.mem_append, List.mem_singleton] at hx
    rcases hx with hx | rfl
    · exact h.kid x hx
    · simp
theorem build_step {l : List Bx} {k : Nat} {s : List Nd × List Int} (hk : k < l.length) (h : (buildN (l.drop k) k s).isSome = true) : chkN s.1 (l.getD (k : Int).toNat zBx) (parN s.2 (l.getD (k : Int).toNat zBx).1) = 0 ∧ buildN (l.drop k) k s = buildN (l.drop (k + 1)) (k + 1) (stepN s (l.getD (k : Int).toNat zBx) k) := by
  rw [getD_nat l zBx k hk]
  rw [List.drop_eq_getElem_cons hk] at h ⊢
  simp only [buildN] at h ⊢
  cases hc : (chkN s.1 l[k] (parN s.2 l[k].1) != 0) with
  | true => rw [hc] at h; cases h
  | false => exact ⟨by simpa using hc, rfl⟩
theorem kid_split {Q : List Nd → Prop} {xs : List Nd} {p i : Int} (hp : p < xs.length) (hk : ∀ x ∈ xs, x.2.2.2.2.length ≤ 65536) (h : Q (kidN xs p i)) :
    bif decide (p ≥ 0) then 0 ≤ p ∧ p < (xs.length : Int) ∧ ((xs.getD p.toNat zNd).2.2.2.2.length + 1) * 8 ≤ 140737488355328 ∧ 0 ≤ p ∧
      p < ((xs.set p.toNat ((xs.getD p.toNat zNd).1, (xs.getD p.toNat zNd).2.1, (xs.getD p.toNat zNd).2.2.1, (xs.getD p.toNat zNd).2.2.2.1, [])).length : Int) ∧ p = p ∧
      Q ((xs.set p.toNat ((xs.getD p.toNat zNd).1, (xs.getD p.toNat zNd).2.1, (xs.getD p.toNat zNd).2.2.1, (xs.getD p.toNat zNd).2.2.2.1, [])).set p.toNat
        (((xs.set p.toNat ((xs.getD p.toNat zNd).1, (xs.getD p.toNat zNd).2.1, (xs.getD p.toNat zNd).2.2.1, (xs.getD p.toNat zNd).2.2.2.1, [])).getD p.toNat zNd).1,
          ((xs.set p.toNat ((xs.getD p.toNat zNd).1, (xs.getD p.toNat zNd).2.1, (xs.getD p.toNat zNd).2.2.1, (xs.getD p.toNat zNd).2.2.2.1, [])).getD p.toNat zNd).2.1,
          ((xs.set p.toNat ((xs.getD p.toNat zNd).1, (xs.getD p.toNat zNd).2.1, (xs.getD p.toNat zNd).2.2.1, (xs.getD p.toNat zNd).2.2.2.1, [])).getD p.toNat zNd).2.2.1,
          ((xs.set p.toNat ((xs.getD p.toNat zNd).1, (xs.getD p.toNat zNd).2.1, (xs.getD p.toNat zNd).2.2.1, (xs.getD p.toNat zNd).2.2.2.1, [])).getD p.toNat zNd).2.2.2.1,
          (xs.getD p.toNat zNd).2.2.2.2 ++ [i])) else Q xs := by
  unfold kidN at h
  refine dec_split (fun h0 => ?_) (fun h0 => ?_)
  · rw [decide_eq_true h0, cond_true] at h
    have hlt : p.toNat < xs.length := by omega
    have hb := hk _ (getD_mem (d := zNd) hlt)
    refine ⟨h0, hp, by omega, h0, by rw [List.length_set]; exact hp, rfl, ?_⟩
    rw [List.set_set, getD_nat' _ _ _ (by rw [List.length_set]; exact hlt), List.getElem_set_self]
    exact h
  · rw [decide_eq_false h0, cond_false] at h
    exact h
theorem frx_TNo (xs : List TNo.den) : xs.map (frx TNo) = (xs : List Nd) := by
  have e : frx TNo = fun x => x := rfl
  rw [e]
  exact List.map_id' xs
end
end Go.Proofs.Ytkpjcmiijlpcaaa.W
