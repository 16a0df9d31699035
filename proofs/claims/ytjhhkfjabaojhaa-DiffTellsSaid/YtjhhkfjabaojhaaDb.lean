/- The law DiffTells. -/
import Derived.Test.YtjhhkfjabaojhaaWa
import Derived.Test.YtjhhkfjabaojhaaDa
import Derived.Test.YtjhhkfjabaojhaaAwZ
import Derived.KernelRfl
set_option linter.unusedVariables false
set_option linter.unusedSimpArgs false
namespace Go.Proofs.Ytjhhkfjabaojhaa.W
open Go Go.Proofs Go.Proofs.Ytjhhkfjabaojhaa.Aw
def f14_live1 : List Nat := [97, 96, 97, 2, 3, 15, 7, 7, 15, 2, 3, 15, 97, 15, 7, 4]
def f14_head1 (xs : List T4.den) (ls : List TL.den) (ys : List T4.den) (ms : List TL.den) (s15 : Int) (s97 : Int) : St := { slots := [AV.undef, AV.undef, AV.ptr 0 0, AV.ptr 1 0, AV.bool false, AV.undef, AV.undef, AV.row 2] ++ List.replicate 7 AV.undef ++ [AV.int IntKind.i64 s15] ++ List.replicate 80 AV.undef ++ [AV.int IntKind.i64 (↑xs.length : Int), AV.int IntKind.i64 s97] ++ List.replicate 45 AV.undef, obs := [Ob.cells 64 [AV.list 45 ((Ty.int IntKind.i64).pair ((Ty.int IntKind.i64).pair ((Ty.int IntKind.i64).pair (Ty.int IntKind.i64)))) xs, AV.list 111 ((Ty.int IntKind.i64).pair (((Ty.int IntKind.i64).pair ((Ty.int IntKind.i64).pair ((Ty.int IntKind.i64).pair (Ty.int IntKind.i64)))).pair ((Ty.int IntKind.i64).pair (Ty.int IntKind.i64)))) ls], Ob.cells 64 [AV.list 45 ((Ty.int IntKind.i64).pair ((Ty.int IntKind.i64).pair ((Ty.int IntKind.i64).pair (Ty.int IntKind.i64)))) ys, AV.list 111 ((Ty.int IntKind.i64).pair (((Ty.int IntKind.i64).pair ((Ty.int IntKind.i64).pair ((Ty.int IntKind.i64).pair (Ty.int IntKind.i64)))).pair ((Ty.int IntKind.i64).pair (Ty.int IntKind.i64)))) ms], Ob.row 101 ((Ty.int IntKind.i64).pair (((Ty.int IntKind.i64).pair ((Ty.int IntKind.i64).pair ((Ty.int IntKind.i64).pair (Ty.int IntKind.i64)))).pair ((Ty.int IntKind.i64).pair ((Ty.int IntKind.i64).pair ((Ty.int IntKind.i64).pair (Ty.int IntKind.i64)))))) (diffO xs ys)] }
def f14_q1 (R : AV → List Ob → Prop) : Ex → St → Prop := blockA 0 (seqQ tab eD5 (subC [1, 1, 1, 1, 1, 1, 1, 1, 1, 1] (bodyOf Try.f14)) [4] (endA tab Try.f14 R))
def f14_loop1 (R : AV → List Ob → Prop) (xs : List T4.den) (ls : List TL.den) (ys : List T4.den) (ms : List TL.den) (s15 : Int) (s97 : Int) : Prop := loopT f14_live1 (codeA tab eD5 (subC [1, 1, 1, 1, 1, 1, 1, 1, 1, 0, 1, 0, 0] (bodyOf Try.f14)) f14_live1) (f14_head1 xs ls ys ms s15 s97) (f14_q1 R)
def f14_rhs1 (R : AV → List Ob → Prop) (xs : List T4.den) (ls : List TL.den) (ys : List T4.den) (ms : List TL.den) (J : St → Prop) (s15 : Int) (s97 : Int) : Prop := bif decide (s97 < (↑xs.length : Int)) then 0 ≤ s97 ∧ s97 < (↑xs.length : Int) ∧ 0 ≤ s97 ∧ s97 < (↑ys.length : Int) ∧ bif (xs.getD s97.toNat (0, 0, 0, 0)).fst == (ys.getD s97.toNat (0, 0, 0, 0)).fst && ((xs.getD s97.toNat (0, 0, 0, 0)).snd.fst == (ys.getD s97.toNat (0, 0, 0, 0)).snd.fst && ((xs.getD s97.toNat (0, 0, 0, 0)).snd.snd.fst == (ys.getD s97.toNat (0, 0, 0, 0)).snd.snd.fst && ((xs.getD s97.toNat (0, 0, 0, 0)).snd.snd.snd == (ys.getD s97.toNat (0, 0, 0, 0)).snd.snd.snd && true))) then J (f14_head1 xs ls ys ms s15 (IntKind.i64.wrap (s97 + 1))) else bif !decide (s15 ≥ (↑(diffO xs ys).length : Int)) then 0 ≤ s15 ∧ s15 < (↑(diffO xs ys).length : Int) ∧ 0 ≤ s97 ∧ s97 < (↑xs.length : Int) ∧ 0 ≤ s97 ∧ s97 < (↑ys.length : Int) ∧ bif !(((diffO xs ys).getD s15.toNat (0, (0, 0, 0, 0), 0, 0, 0, 0)).fst == s97 && (((diffO xs ys).getD s15.toNat (0, (0, 0, 0, 0), 0, 0, 0, 0)).snd.fst.fst == (xs.getD s97.toNat (0, 0, 0, 0)).fst && (((diffO xs ys).getD s15.toNat (0, (0, 0, 0, 0), 0, 0, 0, 0)).snd.fst.snd.fst == (xs.getD s97.toNat (0, 0, 0, 0)).snd.fst && (((diffO xs ys).getD s15.toNat (0, (0, 0, 0, 0), 0, 0, 0, 0)).snd.fst.snd.snd.fst == (xs.getD s97.toNat (0, 0, 0, 0)).snd.snd.fst && (((diffO xs ys).getD s15.toNat (0, (0, 0, 0, 0), 0, 0, 0, 0)).snd.fst.snd.snd.snd == (xs.getD s97.toNat (0, 0, 0, 0)).snd.snd.snd && true))) && (((diffO xs ys).getD s15.toNat (0, (0, 0, 0, 0), 0, 0, 0, 0)).snd.snd.fst == (ys.getD s97.toNat (0, 0, 0, 0)).fst && (((diffO xs ys).getD s15.toNat (0, (0, 0, 0, 0), 0, 0, 0, 0)).snd.snd.snd.fst == (ys.getD s97.toNat (0, 0, 0, 0)).snd.fst && (((diffO xs ys).getD s15.toNat (0, (0, 0, 0, 0), 0, 0, 0, 0)).snd.snd.snd.snd.fst == (ys.getD s97.toNat (0, 0, 0, 0)).snd.snd.fst && (((diffO xs ys).getD s15.toNat (0, (0, 0, 0, 0), 0, 0, 0, 0)).snd.snd.snd.snd.snd == (ys.getD s97.toNat (0, 0, 0, 0)).snd.snd.snd && true))) && true))) then R (AV.bool false) [] else J (f14_head1 xs ls ys ms (IntKind.i64.wrap (s15 + 1)) (IntKind.i64.wrap (s97 + 1))) else R (AV.bool false) [] else R (AV.bool (s15 == (↑(diffO xs ys).length : Int))) []
theorem f14_eq1 (R : AV → List Ob → Prop) (xs : List T4.den) (ls : List TL.den) (ys : List T4.den) (ms : List TL.den) (J : St → Prop) (s15 : Int) (s97 : Int) : codeA tab eD5 (subC [1, 1, 1, 1, 1, 1, 1, 1, 1, 0, 1, 0, 0] (bodyOf Try.f14)) f14_live1 (f14_head1 xs ls ys ms s15 s97) (thenA (fun s => J (St.tidy f14_live1 s)) (f14_q1 R)) = f14_rhs1 R xs ls ys ms J s15 s97 := by kernel_rfl
theorem f14_rule1 (R : AV → List Ob → Prop) (xs : List T4.den) (ls : List TL.den) (ys : List T4.den) (ms : List TL.den) (I : Nat → (Int) → (Int) → Prop) (n : Nat) (s15 : Int) (s97 : Int) (h0 : I n s15 s97) (h : ∀ n, ∀ (s15 : Int) (s97 : Int), I n s15 s97 → f14_rhs1 R xs ls ys ms (fun t => ∃ m, m < n ∧ ∃ (s15 : Int) (s97 : Int), t = f14_head1 xs ls ys ms s15 s97 ∧ I m s15 s97) s15 s97) : f14_loop1 R xs ls ys ms s15 s97 :=
  loop_intro (fun n t => ∃ (s15 : Int) (s97 : Int), t = f14_head1 xs ls ys ms s15 s97 ∧ I n s15 s97) n ⟨s15, s97, rfl, h0⟩ (fun n t ht => by obtain ⟨s15, s97, rfl, hI⟩ := ht; exact Eq.mpr (f14_eq1 R xs ls ys ms (fun t => ∃ m, m < n ∧ ∃ (s15 : Int) (s97 : Int), t = f14_head1 xs ls ys ms s15 s97 ∧ I m s15 s97) s15 s97) (h n s15 s97 hI))
def f14_live2 : List Nat := [97, 96, 97, 2, 3, 15, 7, 7, 15, 2, 3, 15, 97, 15, 7, 4]
def f14_head2 (xs : List T4.den) (ls : List TL.den) (ys : List T4.den) (ms : List TL.den) (s15 : Int) (s97 : Int) : St := { slots := [AV.undef, AV.undef, AV.ptr 0 0, AV.ptr 1 0, AV.bool false, AV.undef, AV.undef, AV.row 2] ++ List.replicate 7 AV.undef ++ [AV.int IntKind.i64 s15] ++ List.replicate 80 AV.undef ++ [AV.int IntKind.i64 (↑xs.length : Int), AV.int IntKind.i64 s97] ++ List.replicate 45 AV.undef, obs := [Ob.cells 64 [AV.list 45 ((Ty.int IntKind.i64).pair ((Ty.int IntKind.i64).pair ((Ty.int IntKind.i64).pair (Ty.int IntKind.i64)))) xs, AV.list 111 ((Ty.int IntKind.i64).pair (((Ty.int IntKind.i64).pair ((Ty.int IntKind.i64).pair ((Ty.int IntKind.i64).pair (Ty.int IntKind.i64)))).pair ((Ty.int IntKind.i64).pair (Ty.int IntKind.i64)))) ls], Ob.cells 64 [AV.list 45 ((Ty.int IntKind.i64).pair ((Ty.int IntKind.i64).pair ((Ty.int IntKind.i64).pair (Ty.int IntKind.i64)))) ys, AV.list 111 ((Ty.int IntKind.i64).pair (((Ty.int IntKind.i64).pair ((Ty.int IntKind.i64).pair ((Ty.int IntKind.i64).pair (Ty.int IntKind.i64)))).pair ((Ty.int IntKind.i64).pair (Ty.int IntKind.i64)))) ms], Ob.row 101 ((Ty.int IntKind.i64).pair (((Ty.int IntKind.i64).pair ((Ty.int IntKind.i64).pair ((Ty.int IntKind.i64).pair (Ty.int IntKind.i64)))).pair ((Ty.int IntKind.i64).pair ((Ty.int IntKind.i64).pair ((Ty.int IntKind.i64).pair (Ty.int IntKind.i64)))))) (diffO xs ys)] }
def f14_q2 (R : AV → List Ob → Prop) : Ex → St → Prop := blockA 0 (seqQ tab eD5 (subC [1, 1, 1, 1, 1, 1, 1, 1, 1, 1] (bodyOf Try.f14)) [4] (endA tab Try.f14 R))
def f14_loop2 (R : AV → List Ob → Prop) (xs : List T4.den) (ls : List TL.den) (ys : List T4.den) (ms : List TL.den) (s15 : Int) (s97 : Int) : Prop := loopT f14_live2 (codeA tab eD5 (subC [1, 1, 1, 1, 1, 1, 1, 1, 1, 0, 1, 0, 0] (bodyOf Try.f14)) f14_live2) (f14_head2 xs ls ys ms s15 s97) (f14_q2 R)
def f14_rhs2 (R : AV → List Ob → Prop) (xs : List T4.den) (ls : List TL.den) (ys : List T4.den) (ms : List TL.den) (J : St → Prop) (s15 : Int) (s97 : Int) : Prop := bif decide (s97 < (↑xs.length : Int)) then 0 ≤ s97 ∧ s97 < (↑xs.length : Int) ∧ 0 ≤ s97 ∧ s97 < (↑ys.length : Int) ∧ bif (xs.getD s97.toNat (0, 0, 0, 0)).fst == (ys.getD s97.toNat (0, 0, 0, 0)).fst && ((xs.getD s97.toNat (0, 0, 0, 0)).snd.fst == (ys.getD s97.toNat (0, 0, 0, 0)).snd.fst && ((xs.getD s97.toNat (0, 0, 0, 0)).snd.snd.fst == (ys.getD s97.toNat (0, 0, 0, 0)).snd.snd.fst && ((xs.getD s97.toNat (0, 0, 0, 0)).snd.snd.snd == (ys.getD s97.toNat (0, 0, 0, 0)).snd.snd.snd && true))) then J (f14_head2 xs ls ys ms s15 (IntKind.i64.wrap (s97 + 1))) else bif !decide (s15 ≥ (↑(diffO xs ys).length : Int)) then 0 ≤ s15 ∧ s15 < (↑(diffO xs ys).length : Int) ∧ 0 ≤ s97 ∧ s97 < (↑xs.length : Int) ∧ 0 ≤ s97 ∧ s97 < (↑ys.length : Int) ∧ bif !(((diffO xs ys).getD s15.toNat (0, (0, 0, 0, 0), 0, 0, 0, 0)).fst == s97 && (((diffO xs ys).getD s15.toNat (0, (0, 0, 0, 0), 0, 0, 0, 0)).snd.fst.fst == (xs.getD s97.toNat (0, 0, 0, 0)).fst && (((diffO xs ys).getD s15.toNat (0, (0, 0, 0, 0), 0, 0, 0, 0)).snd.fst.snd.fst == (xs.getD s97.toNat (0, 0, 0, 0)).snd.fst && (((diffO xs ys).getD s15.toNat (0, (0, 0, 0, 0), 0, 0, 0, 0)).snd.fst.snd.snd.fst == (xs.getD s97.toNat (0, 0, 0, 0)).snd.snd.fst && (((diffO xs ys).getD s15.toNat (0, (0, 0, 0, 0), 0, 0, 0, 0)).snd.fst.snd.snd.snd == (xs.getD s97.toNat (0, 0, 0, 0)).snd.snd.snd && true))) && (((diffO xs ys).getD s15.toNat (0, (0, 0, 0, 0), 0, 0, 0, 0)).snd.snd.fst == (ys.getD s97.toNat (0, 0, 0, 0)).fst && (((diffO xs ys).getD s15.toNat (0, (0, 0, 0, 0), 0, 0, 0, 0)).snd.snd.snd.fst == (ys.getD s97.toNat (0, 0, 0, 0)).snd.fst && (((diffO xs ys).getD s15.toNat (0, (0, 0, 0, 0), 0, 0, 0, 0)).snd.snd.snd.snd.fst == (ys.getD s97.toNat (0, 0, 0, 0)).snd.snd.fst && (((diffO xs ys).getD s15.toNat (0, (0, 0, 0, 0), 0, 0, 0, 0)).snd.snd.snd.snd.snd == (ys.getD s97.toNat (0, 0, 0, 0)).snd.snd.snd && true))) && true))) then R (AV.bool false) [] else J (f14_head2 xs ls ys ms (IntKind.i64.wrap (s15 + 1)) (IntKind.i64.wrap (s97 + 1))) else R (AV.bool false) [] else R (AV.bool (s15 == (↑(diffO xs ys).length : Int))) []
theorem f14_eq2 (R : AV → List Ob → Prop) (xs : List T4.den) (ls : List TL.den) (ys : List T4.den) (ms : List TL.den) (J : St → Prop) (s15 : Int) (s97 : Int) : codeA tab eD5 (subC [1, 1, 1, 1, 1, 1, 1, 1, 1, 0, 1, 0, 0] (bodyOf Try.f14)) f14_live2 (f14_head2 xs ls ys ms s15 s97) (thenA (fun s => J (St.tidy f14_live2 s)) (f14_q2 R)) = f14_rhs2 R xs ls ys ms J s15 s97 := by kernel_rfl
theorem f14_rule2 (R : AV → List Ob → Prop) (xs : List T4.den) (ls : List TL.den) (ys : List T4.den) (ms : List TL.den) (I : Nat → (Int) → (Int) → Prop) (n : Nat) (s15 : Int) (s97 : Int) (h0 : I n s15 s97) (h : ∀ n, ∀ (s15 : Int) (s97 : Int), I n s15 s97 → f14_rhs2 R xs ls ys ms (fun t => ∃ m, m < n ∧ ∃ (s15 : Int) (s97 : Int), t = f14_head2 xs ls ys ms s15 s97 ∧ I m s15 s97) s15 s97) : f14_loop2 R xs ls ys ms s15 s97 :=
  loop_intro (fun n t => ∃ (s15 : Int) (s97 : Int), t = f14_head2 xs ls ys ms s15 s97 ∧ I n s15 s97) n ⟨s15, s97, rfl, h0⟩ (fun n t ht => by obtain ⟨s15, s97, rfl, hI⟩ := ht; exact Eq.mpr (f14_eq2 R xs ls ys ms (fun t => ∃ m, m < n ∧ ∃ (s15 : Int) (s97 : Int), t = f14_head2 xs ls ys ms s15 s97 ∧ I m s15 s97) s15 s97) (h n s15 s97 hI))
theorem f14_run (R : AV → List Ob → Prop) (xs : List T4.den) (ls : List TL.den) (ys : List T4.den) (ms : List TL.den) : fnA tab eD5 Try.f14 (bodyOf Try.f14) [.agg (.cons (.list 45 T4 xs) (.cons (.list 111 TL ls) .nl)), .agg (.cons (.list 45 T4 ys) (.cons (.list 111 TL ms) .nl))] R = (xs.length ≤ 9223372036854775807 ∧ ls.length ≤ 9223372036854775807 ∧ bif !!small xs ls then ys.length ≤ 9223372036854775807 ∧ ms.length ≤ 9223372036854775807 ∧ bif !small ys ms then R (AV.bool true) [] else xs.length ≤ 4096 ∧ ls.length ≤ 4096 ∧ ys.length ≤ 4096 ∧ ms.length ≤ 4096 ∧ xs.length ≤ 4096 ∧ xs.length ≤ 4096 ∧ ls.length ≤ 4096 ∧ ys.length ≤ 4096 ∧ ms.length ≤ 4096 ∧ xs.length ≤ 4096 ∧ ls.length ≤ 4096 ∧ ys.length ≤ 4096 ∧ ms.length ≤ 4096 ∧ bif !(moved xs ls ys ms).fst != (moved xs ls ys ms).fst then bif !(moved xs ls ys ms).snd.fst != (moved xs ls ys ms).snd.fst then bif !!(moved xs ls ys ms).snd.snd == (moved xs ls ys ms).snd.snd then bif !!(errO xs ys == 0) == ((↑xs.length : Int) == (↑ys.length : Int)) then bif errO xs ys != 0 then bif !errO xs ys != 1 then bif (↑(diffO xs ys).length : Int) != 0 then R (AV.bool false) [] else bif errO xs ys != 0 then R (AV.bool true) [] else f14_loop1 R xs ls ys ms 0 0 else R (AV.bool false) [] else bif errO xs ys != 0 then R (AV.bool true) [] else f14_loop2 R xs ls ys ms 0 0 else R (AV.bool false) [] else R (AV.bool false) [] else R (AV.bool false) [] else R (AV.bool false) [] else R (AV.bool true) []) := by kernel_rfl
theorem small_len (xs : List Rc4) (ls : List Ln) (h : small xs ls = true) : xs.length ≤ 60 ∧ ls.length ≤ 60 := by
  simp only [small, Bool.and_eq_true, decide_eq_true_eq] at h
  exact h.1
theorem diffs_more (xs ys : List Rc4) (k : Nat) : ∀ n, k ≤ n → ∃ t, diffsTo xs ys n = diffsTo xs ys k ++ t
  | 0, h => ⟨[], by rw [show k = 0 by omega]; rfl⟩
  | n + 1, h => by
    by_cases e : k = n + 1
    · exact ⟨[], by rw [e, List.append_nil]⟩
    · obtain ⟨t, ht⟩ := diffs_more xs ys k n (by omega)
      exact ⟨t ++ _, by rw [diffsTo, ht, List.append_assoc]⟩
theorem diffs_len (xs ys : List Rc4) : ∀ k, (diffsTo xs ys k).length ≤ k
  | 0 => Nat.le_refl _
  | k + 1 => by
    have := diffs_len xs ys k
    rw [diffsTo, List.length_append]
    cases eqR (xs.getD k (0, 0, 0, 0)) (ys.getD k (0, 0, 0, 0)) <;> simp <;> omega
theorem law14' (xs : List Rc4) (ls : List Ln) (ys : List Rc4) (ms : List Ln) (hx : xs.length ≤ maxLen) (hl : ls.length ≤ maxLen) (hy : ys.length ≤ maxLen) (hm : ms.length ≤ maxLen) :
    ACalls Try.prog 14 [.agg (.cons (.list 45 T4 xs) (.cons (.list 111 TL ls) .nl)), .agg (.cons (.list 45 T4 ys) (.cons (.list 111 TL ms) .nl))] (.bool true) [] := by
  refine fn_ok envD5 tab_ok mixed Try.func14 (by kernel_rfl) (by kernel_rfl) ?_
  rw [f14_run]
  refine ⟨hx, hl, cond_split (fun g1 => ⟨hy, hm, cond_split (fun _ => ⟨rfl, rfl⟩) (fun g2 => ?_)⟩) (fun _ => ⟨rfl, rfl⟩)⟩
  obtain ⟨b1, b2⟩ := small_len xs ls (by simpa using g1)
  obtain ⟨b3, b4⟩ := small_len ys ms (by simpa using g2)
  refine ⟨by omega, by omega, by omega, by omega, by omega, by omega, by omega, by omega, by omega, by omega, by omega, by omega, by omega, cond_of (by simp) (cond_of (by simp) (cond_of (by simp) ?_))⟩
  by_cases heq : xs.length = ys.length
  · rw [show errO xs ys = 0 by simp [errO, heq], show diffO xs ys = diffsTo xs ys xs.length by simp [diffO, heq]]
    refine cond_of (by simp [heq]) (cond_no (by simp) (cond_no (by simp) ?_))
    refine f14_rule2 _ xs ls ys ms (fun n m i => ∃ k : Nat, k ≤ xs.length ∧ n = xs.length - k ∧ i = k ∧ m = (diffsTo xs ys k).length) xs.length 0 0 ⟨0, by omega, by simp, rfl, rfl⟩ ?_
    rintro n m i ⟨k, hk, rfl, rfl, rfl⟩
    unfold f14_rhs2
    refine dec_split (fun hlt => ⟨by omega, hlt, by omega, by omega, ?_⟩) (fun hlt => ?_)
    · have hlt' : k < xs.length := by omega
      have hl2 : k < ys.length := by omega
      rw [getD_nat xs _ k hlt', getD_nat ys _ k hl2, wrap_next k _ hlt' hx, show diffO xs ys = diffsTo xs ys xs.length by simp [diffO, heq]]
      have hd : diffsTo xs ys (k + 1) = diffsTo xs ys k ++ bif eqR xs[k] ys[k] then [] else [((k : Int), xs[k], ys[k])] := by
        rw [diffsTo, getD_nat' xs _ k hlt', getD_nat' ys _ k hl2]
      have hdl := diffs_len xs ys k
      refine cond_split (fun h => ?_) (fun h => ?_)
      · have he : eqR xs[k] ys[k] = true := by simp only [eqR]; simpa [Bool.and_assoc] using h
        rw [he, cond_true, List.append_nil] at hd
        exact ⟨xs.length - (k + 1), by omega, _, _, rfl, k + 1, by omega, rfl, rfl, by rw [hd]⟩
      · have he : eqR xs[k] ys[k] = false := by
          rw [Bool.eq_false_iff]
          intro hh
          rw [(eqR_iff _ _).1 hh] at h
          simp at h
        rw [he, cond_false] at hd
        obtain ⟨t, ht⟩ := diffs_more xs ys (k + 1) xs.length (by omega)
        rw [hd] at ht
        have hlen : (diffsTo xs ys k).length < (diffsTo xs ys xs.length).length := by rw [ht]; simp
        have hget : (diffsTo xs ys xs.length).getD (((diffsTo xs ys k).length : Int)).toNat (0, (0, 0, 0, 0), 0, 0, 0, 0) = ((k : Int), xs[k], ys[k]) := by
          rw [getD_nat _ _ _ hlen]
          simp only [ht]
          simp
        refine ndec_split (fun _ => ⟨by omega, by omega, by omega, hlt, by omega, by omega, ?_⟩) (fun hge => absurd hge (by omega))
        rw [hget]
        refine cond_no (by simp) ⟨xs.length - (k + 1), by omega, _, _, rfl, k + 1, by omega, rfl, rfl, ?_⟩
        rw [hd, wrap_id _ (by omega)]
        simp
    · have he : k = xs.length := by omega
      rw [show diffO xs ys = diffsTo xs ys xs.length by simp [diffO, heq], he]
      exact ⟨by simp, rfl⟩
  · rw [show errO xs ys = 1 by simp [errO, heq], show diffO xs ys = [] by simp [diffO, heq]]
    exact cond_of (by simp; omega) (cond_of (by simp) (cond_of (by simp) (cond_no (by simp) (cond_of (by simp) ⟨rfl, rfl⟩))))
theorem law14 (x : ArgsDen [(true, .pair (.list 45 T4) (.list 111 TL)), (true, .pair (.list 45 T4) (.list 111 TL))]) (h : OkArgs [(true, .pair (.list 45 T4) (.list 111 TL)), (true, .pair (.list 45 T4) (.list 111 TL))] x) : ACalls Try.prog 14 (argsA [(true, .pair (.list 45 T4) (.list 111 TL)), (true, .pair (.list 45 T4) (.list 111 TL))] x) (.bool true) [] :=
  law14' x.1.1 x.1.2 x.2.1.1 x.2.1.2 h.1.1.1 h.1.2.1 h.2.1.1.1 h.2.1.2.1

end Go.Proofs.Ytjhhkfjabaojhaa.W
