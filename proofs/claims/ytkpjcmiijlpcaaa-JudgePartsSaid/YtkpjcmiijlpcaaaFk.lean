/- Layer 20's judge, where there is one fault at most. -/
import Derived.Test.YtkpjcmiijlpcaaaWa
import Derived.Test.YtkpjcmiijlpcaaaEa
import Derived.Test.YtkpjcmiijlpcaaaFa
import Derived.Test.YtkpjcmiijlpcaaaFb
import Derived.Test.YtkpjcmiijlpcaaaFc
import Derived.Test.YtkpjcmiijlpcaaaFd
import Derived.Test.YtkpjcmiijlpcaaaFe
import Derived.Test.YtkpjcmiijlpcaaaFf
import Derived.Test.YtkpjcmiijlpcaaaFg
import Derived.Test.YtkpjcmiijlpcaaaFh
import Derived.Test.YtkpjcmiijlpcaaaFi
import Derived.Test.YtkpjcmiijlpcaaaFj
import Derived.Test.YtkpjcmiijlpcaaaAwZ
import Derived.KernelRfl
set_option linter.unusedVariables false
set_option linter.unusedSimpArgs false
namespace Go.Proofs.Ytkpjcmiijlpcaaa.W
open Go Go.Proofs Go.Proofs.Ytkpjcmiijlpcaaa.Aw
noncomputable section
def consY0 : Cons := consQ5
def twosY0 : Cons2 := (44, con44) :: twosQ5
def pansY0 : Cons3 := pansQ5
def itersY0 : Cons4 := itersQ5
abbrev eY0 : Env := envOf4 consY0 twosY0 pansY0 itersY0
theorem allconsY0 : ∀ c ∈ consY0, ConOk Try.prog c := allconsQ5
theorem alltwosY0 : ∀ c ∈ twosY0, ConOk2 Try.prog c := all_cons ok44 alltwosQ5
theorem allpansY0 : ∀ c ∈ pansY0, ConOk3 Try.prog c := allpansQ5
theorem allitersY0 : ∀ c ∈ itersY0, ConOk4 Try.prog c := allitersQ5
theorem envY0 : EnvOk Try.prog eY0 := envOf4_ok _ _ _ _ allconsY0 alltwosY0 allpansY0 allitersY0
def j1Step (xs : List Nd) (bs : List R4) (fs : List Ft) (i : Int) : List Ft := bif (ndAt xs i).1.2.1 == 2 then flL xs bs i fs else bif (ndAt xs i).1.2.1 == 3 then agL xs bs (ndAt xs i).2.2.2.1 i (bs.getD i.toNat (0, 0, 0, 0)) 7 i fs else fs
def j2Step (xs : List Nd) (bs : List R4) (fs : List Ft) (i : Int) (l : Ln) : List Ft := bif rightB xs l.1 l.2.2.1 l.2.2.2 then agL xs bs (ndAt xs l.1).2.2.2.1 l.2.2.1 l.2.1 6 i fs else fnd true (1, i, -1) fs
def j1L (xs : List Nd) (bs : List R4) : Nat → List Ft
  | 0 => []
  | k + 1 => j1Step xs bs (j1L xs bs k) (k + 1 : Nat)
def j2L (xs : List Nd) (bs : List R4) (ls : List Ln) (f0 : List Ft) : Nat → List Ft
  | 0 => f0
  | k + 1 => j2Step xs bs (j2L xs bs ls f0 k) k (ls.getD k (0, (0, 0, 0, 0), 0, 0))
def judgeL (xs : List Nd) (bs : List R4) (ls : List Ln) : List Ft := j2L xs bs ls (j1L xs bs (xs.length - 1)) ls.length
theorem flStep_len (xs : List Nd) (bs : List R4) (i : Int) (fs : List Ft) (j : Int) : (flStep xs bs i fs j).length ≤ fs.length + 3 := by
  unfold flStep
  exact Nat.le_trans (fnd_len _ _ _) (Nat.succ_le_succ (Nat.le_trans (fnd_len _ _ _) (Nat.succ_le_succ (fnd_len _ _ _))))
theorem flL_len {xs : List Nd} (t : TrOk xs) (bs : List R4) (i : Int) (fs : List Ft) : (flL xs bs i fs).length ≤ fs.length + 196609 := by
  unfold flL
  have h1 := fnd_len (sideW (ndAt xs i).1 (mgL xs bs i) (ndAt xs (parL xs i)).1.2.2.2.2.2.2.2 (bs.getD (parL xs i).toNat (0, 0, 0, 0)).1 (bs.getD (parL xs i).toNat (0, 0, 0, 0)).2.2.1) (4, i, parL xs i) fs
  generalize fnd _ (4, i, parL xs i) fs = f0 at h1 ⊢
  have h2 := flt_len t (ndAt xs i).2.2.2.1 i
  generalize fltL xs (ndAt xs i).2.2.2.1 i = q at h2 ⊢
  have h3 := fold_len (g := flStep xs bs i) (d := 3) (flStep_len xs bs i) q f0
  generalize (List.foldl (flStep xs bs i) f0 q).length = a at h3 ⊢
  omega
theorem agL_len {xs : List Nd} (t : TrOk xs) (bs : List R4) (c a : Int) (r : R4) (u i : Int) (fs : List Ft) : (agL xs bs c a r u i fs).length ≤ fs.length + 65536 := by
  have h2 := flt_len t c a
  have h3 := fold_len (g := agStep xs bs r u i) (d := 1) (fun fs j => fnd_len _ _ fs) (fltL xs c a) fs
  unfold agL
  omega
theorem j1L_len {xs : List Nd} (t : TrOk xs) (bs : List R4) : ∀ k, (j1L xs bs k).length ≤ k * 196609
  | 0 => by simp [j1L]
  | k + 1 => by
    have h := j1L_len t bs k
    have h1 := flL_len t bs ((k + 1 : Nat) : Int) (j1L xs bs k)
    have h2 := agL_len t bs (ndAt xs ((k + 1 : Nat) : Int)).2.2.2.1 ((k + 1 : Nat) : Int) (bs.getD ((k + 1 : Nat) : Int).toNat (0, 0, 0, 0)) 7 ((k + 1 : Nat) : Int) (j1L xs bs k)
    simp only [j1L, j1Step]
    generalize (flL xs bs ((k + 1 : Nat) : Int) (j1L xs bs k)) = f1 at h1 ⊢
    generalize (agL xs bs (ndAt xs ((k + 1 : Nat) : Int)).2.2.2.1 ((k + 1 : Nat) : Int) (bs.getD ((k + 1 : Nat) : Int).toNat (0, 0, 0, 0)) 7 ((k + 1 : Nat) : Int) (j1L xs bs k)) = f2 at h2 ⊢
    generalize j1L xs bs k = f0 at h h1 h2 ⊢
    rw [Nat.add_mul]
    cases (ndAt xs ((k + 1 : Nat) : Int)).1.2.1 == 2 with
    | true => rw [cond_true]; omega
    | false =>
      rw [cond_false]
      cases (ndAt xs ((k + 1 : Nat) : Int)).1.2.1 == 3 with
      | true => rw [cond_true]; omega
      | false => rw [cond_false]; exact Nat.le_trans h (Nat.le_add_right _ _)
theorem j2L_len {xs : List Nd} (t : TrOk xs) (bs : List R4) (ls : List Ln) (f0 : List Ft) : ∀ k, (j2L xs bs ls f0 k).length ≤ f0.length + k * 65536
  | 0 => by simp [j2L]
  | k + 1 => by
    have h := j2L_len t bs ls f0 k
    simp only [j2L, j2Step]
    generalize ls.getD k (0, (0, 0, 0, 0), 0, 0) = l
    have h1 := fnd_len true (1, (k : Int), -1) (j2L xs bs ls f0 k)
    have h2 := agL_len t bs (ndAt xs l.1).2.2.2.1 l.2.2.1 l.2.1 6 k (j2L xs bs ls f0 k)
    cases rightB xs l.1 l.2.2.1 l.2.2.2 with
    | true => rw [cond_true]; omega
    | false => rw [cond_false]; omega
def con26 : List AV → List Ob → Option Tells2
  | [.lptr 94 (.list 98 (.pair (.pair (.int .i64) (.pair (.int .i64) (.pair (.int .i64) (.pair (.int .i64) (.pair (.int .i64) (.pair (.int .i64) (.pair (.pair (.int .i64) (.pair (.int .i64) (.pair (.int .i64) (.int .i64)))) (.pair (.int .i64) (.pair (.int .i64) (.pair (.int .i64) (.int .i64))))))))))) (.pair (.int .i64) (.pair (.int .i64) (.pair (.int .i64) (.list 3 (.int .i64))))))) [xs] 0 0, .agg (.cons (.list 48 (.pair (.int .i64) (.pair (.int .i64) (.pair (.int .i64) (.int .i64)))) bs) (.cons (.list 106 (.pair (.int .i64) (.pair (.pair (.int .i64) (.pair (.int .i64) (.pair (.int .i64) (.int .i64)))) (.pair (.int .i64) (.int .i64)))) ls) .nl))], [] => some ⟨[TrOk xs, xs.length = bs.length, 0 < xs.length, ls.length ≤ 65536, (judgeL xs bs ls).length ≤ 1], .row 0, [], [.row 78 TF (blk (judgeL xs bs ls))]⟩
  | _, _ => none
def f26_cuts : List Nat := [7]
def f26_live1 : List Nat := [6, 0, 0, 6, 5, 6, 5, 0, 6, 6, 3, 6, 6, 6, 3, 5, 5, 5, 0, 5, 5, 4]
set_option maxHeartbeats 2000000 in
def f26_head1 (xs : List TN.den) (bs : List T4.den) (ls : List TL.den) (s6 : Int) (o3 : List (Int × Int × Int)) : St := { slots := [AV.lptr 94 (Ty.list 98 TN) [xs] 0 0, AV.undef, AV.undef, AV.ptr 0 0, AV.row 1, AV.ptr 2 0, AV.int IntKind.i64 s6] ++ List.replicate 79 AV.undef, obs := [Ob.cells 76 [AV.list 48 T4 bs, AV.list 106 ((Ty.int IntKind.i64).pair (T4.pair ((Ty.int IntKind.i64).pair (Ty.int IntKind.i64)))) ls], Ob.row 78 ((Ty.int IntKind.i64).pair ((Ty.int IntKind.i64).pair (Ty.int IntKind.i64))) [], Ob.cells 102 [AV.lptr 94 (Ty.list 98 TN) [xs] 0 0, AV.list 48 T4 bs, AV.list 106 ((Ty.int IntKind.i64).pair (T4.pair ((Ty.int IntKind.i64).pair (Ty.int IntKind.i64)))) ls, AV.row 3], Ob.row 78 ((Ty.int IntKind.i64).pair ((Ty.int IntKind.i64).pair (Ty.int IntKind.i64))) o3] }
def f26_q1 (R : AV → List Ob → Prop) : Ex → St → Prop := blockA 0 (seqQ tab (eY0.cut f26_cuts) (subC [1, 1, 1, 1] (bodyOf Try.f26)) [4] (endA tab Try.f26 R))
def f26_loop1 (R : AV → List Ob → Prop) (xs : List TN.den) (bs : List T4.den) (ls : List TL.den) (s6 : Int) (o3 : List (Int × Int × Int)) : Prop := loopT f26_live1 (codeA tab (eY0.cut f26_cuts) (subC [1, 1, 1, 0, 1, 0, 0] (bodyOf Try.f26)) f26_live1) (f26_head1 xs bs ls s6 o3) (f26_q1 R)
set_option maxHeartbeats 2000000 in
def f26_j2 (R : AV → List Ob → Prop) (xs : List TN.den) (bs : List T4.den) (ls : List TL.den) (s6 : Int) (J : St → Prop) (o3'_2 : List (Int × Int × Int)) : Prop := Meet (fun s => codeA tab (eY0.cut f26_cuts) (subC [1, 1, 1, 0, 1, 0, 0, 1, 1] (bodyOf Try.f26)) [6, 0, 0, 6, 5, 6, 5, 0, 6, 6, 3, 6, 6, 6, 3, 5, 5, 5, 0, 5, 5, 4] s (thenA (fun s => J (St.tidy f26_live1 s)) (blockA 0 (seqQ tab (eY0.cut f26_cuts) (subC [1, 1, 1, 1] (bodyOf Try.f26)) [4] (endA tab Try.f26 R))))) { slots := [AV.lptr 94 (Ty.list 98 TN) [xs] 0 0, AV.undef, AV.undef, AV.ptr 0 0, AV.row 1, AV.ptr 2 0, AV.int IntKind.i64 s6] ++ List.replicate 79 AV.undef, obs := [Ob.cells 76 [AV.list 48 T4 bs, AV.list 106 ((Ty.int IntKind.i64).pair (T4.pair ((Ty.int IntKind.i64).pair (Ty.int IntKind.i64)))) ls], Ob.row 78 ((Ty.int IntKind.i64).pair ((Ty.int IntKind.i64).pair (Ty.int IntKind.i64))) [], Ob.cells 102 [AV.lptr 94 (Ty.list 98 TN) [xs] 0 0, AV.list 48 T4 bs, AV.list 106 ((Ty.int IntKind.i64).pair (T4.pair ((Ty.int IntKind.i64).pair (Ty.int IntKind.i64)))) ls, AV.row 3], Ob.row 78 ((Ty.int IntKind.i64).pair ((Ty.int IntKind.i64).pair (Ty.int IntKind.i64))) o3'_2] }
theorem f26_jeq2 (R : AV → List Ob → Prop) (xs : List TN.den) (bs : List T4.den) (ls : List TL.den) (s6 : Int) (J : St → Prop) (o3'_2 : List (Int × Int × Int)) : f26_j2 R xs bs ls s6 J o3'_2 = (J (f26_head1 xs bs ls (IntKind.i64.wrap (s6 + 1)) o3'_2)) := (meet_eq _ _).trans (by kernel_rfl)
def f26_live3 : List Nat := [53, 52, 53, 51, 53, 5, 5, 5, 0, 53, 5, 5, 4]
set_option maxHeartbeats 2000000 in
def f26_head3 (xs : List TN.den) (bs : List T4.den) (ls : List TL.den) (s53' : Int) (o2' : List (Int × Int × Int)) : St := { slots := [AV.lptr 94 (Ty.list 98 TN) [xs] 0 0, AV.undef, AV.undef, AV.undef, AV.row 0, AV.ptr 1 0] ++ List.replicate 45 AV.undef ++ [AV.list 106 ((Ty.int IntKind.i64).pair (T4.pair ((Ty.int IntKind.i64).pair (Ty.int IntKind.i64)))) ls, AV.int IntKind.i64 (↑ls.length : Int), AV.int IntKind.i64 s53'] ++ List.replicate 32 AV.undef, obs := [Ob.row 78 ((Ty.int IntKind.i64).pair ((Ty.int IntKind.i64).pair (Ty.int IntKind.i64))) [], Ob.cells 102 [AV.lptr 94 (Ty.list 98 TN) [xs] 0 0, AV.list 48 T4 bs, AV.list 106 ((Ty.int IntKind.i64).pair (T4.pair ((Ty.int IntKind.i64).pair (Ty.int IntKind.i64)))) ls, AV.row 2], Ob.row 78 ((Ty.int IntKind.i64).pair ((Ty.int IntKind.i64).pair (Ty.int IntKind.i64))) o2'] }
def f26_q3 (R : AV → List Ob → Prop) : Ex → St → Prop := blockA 3 (seqQ tab (eY0.cut f26_cuts) (subC [1, 1, 1, 1, 1] (bodyOf Try.f26)) [4] (endA tab Try.f26 R))
def f26_loop3 (R : AV → List Ob → Prop) (xs : List TN.den) (bs : List T4.den) (ls : List TL.den) (s53' : Int) (o2' : List (Int × Int × Int)) : Prop := loopT f26_live3 (codeA tab (eY0.cut f26_cuts) (subC [1, 1, 1, 1, 0, 1, 0, 0] (bodyOf Try.f26)) f26_live3) (f26_head3 xs bs ls s53' o2') (f26_q3 R)
def f26_rhs3 (R : AV → List Ob → Prop) (xs : List TN.den) (bs : List T4.den) (ls : List TL.den) (J1 : St → Prop) (s53' : Int) (o2' : List (Int × Int × Int)) : Prop := bif decide (s53' < (↑ls.length : Int)) then 0 ≤ s53' ∧ s53' < (↑ls.length : Int) ∧ TrOk xs ∧ bif !blk (rightB xs (ls.getD s53'.toNat (0, (0, 0, 0, 0), 0, 0)).fst (ls.getD s53'.toNat (0, (0, 0, 0, 0), 0, 0)).snd.snd.fst (ls.getD s53'.toNat (0, (0, 0, 0, 0), 0, 0)).snd.snd.snd) then o2'.length ≤ 1099511627776 ∧ J1 (f26_head3 xs bs ls (IntKind.i64.wrap (s53' + 1)) (fnd true (1, s53', -1) o2')) else TrOk xs ∧ xs.length = bs.length ∧ o2'.length ≤ 549755813888 ∧ J1 (f26_head3 xs bs ls (IntKind.i64.wrap (s53' + 1)) (agL xs bs (ndAt xs (ls.getD s53'.toNat (0, (0, 0, 0, 0), 0, 0)).fst).snd.snd.snd.fst (ls.getD s53'.toNat (0, (0, 0, 0, 0), 0, 0)).snd.snd.fst ((ls.getD s53'.toNat (0, (0, 0, 0, 0), 0, 0)).snd.fst.fst, (ls.getD s53'.toNat (0, (0, 0, 0, 0), 0, 0)).snd.fst.snd.fst, (ls.getD s53'.toNat (0, (0, 0, 0, 0), 0, 0)).snd.fst.snd.snd.fst, (ls.getD s53'.toNat (0, (0, 0, 0, 0), 0, 0)).snd.fst.snd.snd.snd) 6 s53' o2')) else o2'.length ≤ 1 ∧ R (AV.row 0) [Ob.row 78 ((Ty.int IntKind.i64).pair ((Ty.int IntKind.i64).pair (Ty.int IntKind.i64))) o2']
theorem f26_eq3 (R : AV → List Ob → Prop) (xs : List TN.den) (bs : List T4.den) (ls : List TL.den) (J1 : St → Prop) (s53' : Int) (o2' : List (Int × Int × Int)) : codeA tab (eY0.cut f26_cuts) (subC [1, 1, 1, 1, 0, 1, 0, 0] (bodyOf Try.f26)) f26_live3 (f26_head3 xs bs ls s53' o2') (thenA (fun s => J1 (St.tidy f26_live3 s)) (f26_q3 R)) = f26_rhs3 R xs bs ls J1 s53' o2' := by kernel_rfl
theorem f26_rule3 (R : AV → List Ob → Prop) (xs : List TN.den) (bs : List T4.den) (ls : List TL.den) (I : Nat → (Int) → (List (Int × Int × Int)) → Prop) (n : Nat) (s53' : Int) (o2' : List (Int × Int × Int)) (h0 : I n s53' o2') (h : ∀ n, ∀ (s53' : Int) (o2' : List (Int × Int × Int)), I n s53' o2' → f26_rhs3 R xs bs ls (fun t => ∃ m, m < n ∧ ∃ (s53' : Int) (o2' : List (Int × Int × Int)), t = f26_head3 xs bs ls s53' o2' ∧ I m s53' o2') s53' o2') : f26_loop3 R xs bs ls s53' o2' :=
  loop_intro (fun n t => ∃ (s53' : Int) (o2' : List (Int × Int × Int)), t = f26_head3 xs bs ls s53' o2' ∧ I n s53' o2') n ⟨s53', o2', rfl, h0⟩ (fun n t ht => by obtain ⟨s53', o2', rfl, hI⟩ := ht; exact Eq.mpr (f26_eq3 R xs bs ls (fun t => ∃ m, m < n ∧ ∃ (s53' : Int) (o2' : List (Int × Int × Int)), t = f26_head3 xs bs ls s53' o2' ∧ I m s53' o2') s53' o2') (h n s53' o2' hI))
def f26_rhs1 (R : AV → List Ob → Prop) (xs : List TN.den) (bs : List T4.den) (ls : List TL.den) (J : St → Prop) (s6 : Int) (o3 : List (Int × Int × Int)) : Prop := bif decide (s6 < (↑(List.length ([xs].getD 0 [])) : Int)) then bif (ndAt xs s6).fst.snd.fst == 2 then TrOk xs ∧ xs.length = bs.length ∧ o3.length ≤ 549755813888 ∧ 0 < s6 ∧ s6 < (↑xs.length : Int) ∧ f26_j2 R xs bs ls s6 J (flL xs bs s6 o3) else bif (ndAt xs s6).fst.snd.fst == 3 then 0 ≤ s6 ∧ s6 < (↑bs.length : Int) ∧ TrOk xs ∧ xs.length = bs.length ∧ o3.length ≤ 549755813888 ∧ f26_j2 R xs bs ls s6 J (agL xs bs (ndAt xs s6).snd.snd.snd.fst s6 ((bs.getD s6.toNat (0, 0, 0, 0)).fst, (bs.getD s6.toNat (0, 0, 0, 0)).snd.fst, (bs.getD s6.toNat (0, 0, 0, 0)).snd.snd.fst, (bs.getD s6.toNat (0, 0, 0, 0)).snd.snd.snd) 7 s6 o3) else f26_j2 R xs bs ls s6 J o3 else f26_loop3 R xs bs ls 0 o3
theorem f26_eq1 (R : AV → List Ob → Prop) (xs : List TN.den) (bs : List T4.den) (ls : List TL.den) (J : St → Prop) (s6 : Int) (o3 : List (Int × Int × Int)) : codeA tab (eY0.cut f26_cuts) (subC [1, 1, 1, 0, 1, 0, 0] (bodyOf Try.f26)) f26_live1 (f26_head1 xs bs ls s6 o3) (thenA (fun s => J (St.tidy f26_live1 s)) (f26_q1 R)) = f26_rhs1 R xs bs ls J s6 o3 := by kernel_rfl
theorem f26_rule1 (R : AV → List Ob → Prop) (xs : List TN.den) (bs : List T4.den) (ls : List TL.den) (I : Nat → (Int) → (List (Int × Int × Int)) → Prop) (n : Nat) (s6 : Int) (o3 : List (Int × Int × Int)) (h0 : I n s6 o3) (h : ∀ n, ∀ (s6 : Int) (o3 : List (Int × Int × Int)), I n s6 o3 → f26_rhs1 R xs bs ls (fun t => ∃ m, m < n ∧ ∃ (s6 : Int) (o3 : List (Int × Int × Int)), t = f26_head1 xs bs ls s6 o3 ∧ I m s6 o3) s6 o3) : f26_loop1 R xs bs ls s6 o3 :=
  loop_intro (fun n t => ∃ (s6 : Int) (o3 : List (Int × Int × Int)), t = f26_head1 xs bs ls s6 o3 ∧ I n s6 o3) n ⟨s6, o3, rfl, h0⟩ (fun n t ht => by obtain ⟨s6, o3, rfl, hI⟩ := ht; exact Eq.mpr (f26_eq1 R xs bs ls (fun t => ∃ m, m < n ∧ ∃ (s6 : Int) (o3 : List (Int × Int × Int)), t = f26_head1 xs bs ls s6 o3 ∧ I m s6 o3) s6 o3) (h n s6 o3 hI))
theorem f26_run (R : AV → List Ob → Prop) (xs : List TN.den) (bs : List T4.den) (ls : List TL.den) : fnB tab (eY0.cut f26_cuts) Try.f26 (bodyOf Try.f26) [.lptr 94 (.list 98 TN) [xs] 0 0, .agg (.cons (.list 48 T4 bs) (.cons (.list 106 TL ls) .nl))] [] R = (bif (↑bs.length : Int) != (↑(List.length ([xs].getD 0 [])) : Int) then R (AV.row 0) [Ob.row 78 ((Ty.int IntKind.i64).pair ((Ty.int IntKind.i64).pair (Ty.int IntKind.i64))) [(1, -1, -1)]] else f26_loop1 R xs bs ls 1 []) := by kernel_rfl
theorem ok26 : ConOk2 Try.prog (26, con26) := by
  intro args obs t h hp
  change con26 args obs = some t at h
  unfold con26 at h
  split at h
  · rename_i xs bs ls
    change List TN.den at xs
    change List T4.den at bs
    change List TL.den at ls
    cases h
    refine fn_ok2 (envY0.cut f26_cuts) tab_ok mixed Try.func26 (by kernel_rfl) (by kernel_rfl) ?_
    rw [f26_run]
    try dsimp only
    have ht := hp (TrOk xs) (by simp)
    have hb := hp (xs.length = bs.length) (by simp)
    have hx0 := hp (0 < xs.length) (by simp)
    have hls := hp (ls.length ≤ 65536) (by simp)
    have h1 := hp ((judgeL xs bs ls).length ≤ 1) (by simp)
    clear hp
    rw [blk_eq]
    have hxl : xs.length ≤ 65536 := ht.len
    have hz : ([xs].getD 0 []) = xs := rfl
    refine cond_no (by rw [hz, bne_eq_false_iff_eq]; omega) ?_
    refine f26_rule1 _ xs bs ls (fun n s o => ∃ k : Nat, k + 1 ≤ xs.length ∧ n = xs.length - k ∧ s = (k + 1 : Nat) ∧ o = j1L xs bs k) xs.length 1 [] ⟨0, by omega, rfl, rfl, rfl⟩ ?_
    rintro n s o ⟨k, hk, rfl, rfl, rfl⟩
    unfold f26_rhs1
    have hj1 := j1L_len ht bs k
    refine dec_split (fun hlt => ?_) (fun hlt => ?_)
    · rw [hz] at hlt
      have hw : IntKind.wrap .i64 (((k + 1 : Nat) : Int) + 1) = ((k + 1 + 1 : Nat) : Int) := by rw [wrap_id _ (by omega)]; rfl
      refine cond_split (fun hc => ?_) (fun hc => cond_split (fun hc2 => ?_) (fun hc2 => ?_))
      · rw [f26_jeq2, hw]
        refine ⟨ht, hb, by omega, by omega, hlt, xs.length - (k + 1), by omega, _, _, rfl, k + 1, by omega, rfl, rfl, ?_⟩
        simp only [j1L, j1Step, hc, cond_true]
      · rw [f26_jeq2, hw]
        refine ⟨by omega, by omega, ht, hb, by omega, xs.length - (k + 1), by omega, _, _, rfl, k + 1, by omega, rfl, rfl, ?_⟩
        simp only [j1L, j1Step, hc, hc2, cond_true, cond_false]
      · rw [f26_jeq2, hw]
        refine ⟨xs.length - (k + 1), by omega, _, _, rfl, k + 1, by omega, rfl, rfl, ?_⟩
        simp only [j1L, j1Step, hc, hc2, cond_false]
    · rw [hz] at hlt
      have hke : k = xs.length - 1 := by omega
      subst hke
      refine f26_rule3 _ xs bs ls (fun n s o => ∃ j : Nat, j ≤ ls.length ∧ n = ls.length - j ∧ s = j ∧ o = j2L xs bs ls (j1L xs bs (xs.length - 1)) j) ls.length 0 _ ⟨0, Nat.zero_le _, rfl, rfl, rfl⟩ ?_
      rintro n s o ⟨j, hj, rfl, rfl, rfl⟩
      unfold f26_rhs3
      have hj2 := j2L_len ht bs ls (j1L xs bs (xs.length - 1)) j
      refine dec_split (fun hlt2 => ?_) (fun hlt2 => ?_)
      · have hlt' : j < ls.length := by omega
        have hw := wrap_next j _ hlt' (by simp only [maxLen]; omega)
        rw [Int.toNat_natCast, blk_eq]
        refine ⟨by omega, hlt2, ht, cond_split (fun hc => ?_) (fun hc => ?_)⟩
        · rw [Bool.not_eq_true'] at hc
          refine ⟨by omega, ls.length - (j + 1), by omega, _, _, rfl, j + 1, by omega, rfl, hw, ?_⟩
          simp only [j2L, j2Step, hc, cond_true, cond_false]
        · rw [Bool.not_eq_false'] at hc
          refine ⟨ht, hb, by omega, ls.length - (j + 1), by omega, _, _, rfl, j + 1, by omega, rfl, hw, ?_⟩
          simp only [j2L, j2Step, hc, cond_true, cond_false]
      · have hje : j = ls.length := by omega
        subst hje
        exact ⟨h1, rfl, rfl⟩
  · cases h
end
end Go.Proofs.Ytkpjcmiijlpcaaa.W
