/- The laws ScriptWrites and ScriptReads. -/
import Derived.Test.YtjhhkfjabaojhaaWa
import Derived.Test.YtjhhkfjabaojhaaEa
import Derived.Test.YtjhhkfjabaojhaaAwZ
import Derived.KernelRfl
set_option linter.unusedVariables false
set_option linter.unusedSimpArgs false
namespace Go.Proofs.Ytjhhkfjabaojhaa.W
open Go Go.Proofs Go.Proofs.Ytjhhkfjabaojhaa.Aw
def consS3 : Cons := (52, con52) :: (53, con53) :: consS2
def twosS3 : Cons2 := twosS2
def pansS3 : Cons3 := pansS2
def itersS3 : Cons4 := itersS2
abbrev eS3 : Env := envOf4 consS3 twosS3 pansS3 itersS3
theorem allconsS3 : ∀ c ∈ consS3, ConOk Try.prog c := all_cons ok52 (all_cons ok53 allconsS2)
theorem alltwosS3 : ∀ c ∈ twosS3, ConOk2 Try.prog c := alltwosS2
theorem allpansS3 : ∀ c ∈ pansS3, ConOk3 Try.prog c := allpansS2
theorem allitersS3 : ∀ c ∈ itersS3, ConOk4 Try.prog c := allitersS2
theorem envS3 : EnvOk Try.prog eS3 := envOf4_ok _ _ _ _ allconsS3 alltwosS3 allpansS3 allitersS3
def con47 : List AV → Option Tells
  | [] => some ⟨[], AV.bool true, []⟩
  | _ => none
theorem f47_run (R : AV → List Ob → Prop)  : fnA tab eS3 Try.f47 (bodyOf Try.f47) [] R = (Nat.le 0 9223372036854775807 ∧ Nat.le 1 65536 ∧ R (AV.bool true) []) := by kernel_rfl
theorem ok47 : ConOk Try.prog (47, con47) := by
  intro args t h hp
  simp only [con47] at h
  split at h
  · cases h
    refine fn_ok envS3 tab_ok mixed Try.func47 (by kernel_rfl) (by kernel_rfl) ?_
    rw [f47_run]
    exact ⟨Nat.le_of_ble_eq_true rfl, ⟨Nat.le_of_ble_eq_true rfl, ⟨rfl, rfl⟩⟩⟩
  · cases h
def consS4 : Cons := (47, con47) :: consS3
def twosS4 : Cons2 := twosS3
def pansS4 : Cons3 := pansS3
def itersS4 : Cons4 := itersS3
abbrev eS4 : Env := envOf4 consS4 twosS4 pansS4 itersS4
theorem allconsS4 : ∀ c ∈ consS4, ConOk Try.prog c := all_cons ok47 allconsS3
theorem alltwosS4 : ∀ c ∈ twosS4, ConOk2 Try.prog c := alltwosS3
theorem allpansS4 : ∀ c ∈ pansS4, ConOk3 Try.prog c := allpansS3
theorem allitersS4 : ∀ c ∈ itersS4, ConOk4 Try.prog c := allitersS3
theorem envS4 : EnvOk Try.prog eS4 := envOf4_ok _ _ _ _ allconsS4 alltwosS4 allpansS4 allitersS4
def f9_live1 : List Nat := [40, 39, 40, 38, 40, 0, 40, 2]
def f9_head1 (xs : List TB.den) (s40 : Int) : St := { slots := [AV.list 66 ((Ty.int IntKind.i64).pair ((Ty.int IntKind.i64).pair ((Ty.int IntKind.i64).pair ((Ty.int IntKind.i64).pair ((Ty.int IntKind.i64).pair ((Ty.int IntKind.i64).pair (((Ty.int IntKind.i64).pair ((Ty.int IntKind.i64).pair ((Ty.int IntKind.i64).pair (Ty.int IntKind.i64)))).pair ((Ty.int IntKind.i64).pair ((Ty.int IntKind.i64).pair ((Ty.int IntKind.i64).pair (Ty.int IntKind.i64))))))))))) xs, AV.undef, AV.bool false] ++ List.replicate 35 AV.undef ++ [AV.row 0, AV.int IntKind.i64 (↑(datD (List.flatMap encB xs)).length : Int), AV.int IntKind.i64 s40] ++ List.replicate 12 AV.undef, obs := [Ob.row 72 ((Ty.int IntKind.i64).pair ((Ty.int IntKind.i64).pair ((Ty.int IntKind.i64).pair ((Ty.int IntKind.i64).pair ((Ty.int IntKind.i64).pair ((Ty.int IntKind.i64).pair (((Ty.int IntKind.i64).pair ((Ty.int IntKind.i64).pair ((Ty.int IntKind.i64).pair (Ty.int IntKind.i64)))).pair ((Ty.int IntKind.i64).pair ((Ty.int IntKind.i64).pair ((Ty.int IntKind.i64).pair (Ty.int IntKind.i64))))))))))) (datD (List.flatMap encB xs))] }
def f9_q1 (R : AV → List Ob → Prop) : Ex → St → Prop := blockA 0 (seqQ tab eS4 (subC [1, 1, 1, 1, 1, 1, 1] (bodyOf Try.f9)) [2] (endA tab Try.f9 R))
def f9_loop1 (R : AV → List Ob → Prop) (xs : List TB.den) (s40 : Int) : Prop := loopT f9_live1 (codeA tab eS4 (subC [1, 1, 1, 1, 1, 1, 0, 1, 0, 0] (bodyOf Try.f9)) f9_live1) (f9_head1 xs s40) (f9_q1 R)
set_option maxHeartbeats 2000000 in
def f9_rhs1 (R : AV → List Ob → Prop) (xs : List TB.den) (J : St → Prop) (s40 : Int) : Prop := bif decide (s40 < (↑(datD (List.flatMap encB xs)).length : Int)) then 0 ≤ s40 ∧ s40 < (↑(datD (List.flatMap encB xs)).length : Int) ∧ 0 ≤ s40 ∧ s40 < (↑xs.length : Int) ∧ bif !(((datD (List.flatMap encB xs)).getD s40.toNat (0, 0, 0, 0, 0, 0, (0, 0, 0, 0), 0, 0, 0, 0)).fst == (xs.getD s40.toNat (0, 0, 0, 0, 0, 0, (0, 0, 0, 0), 0, 0, 0, 0)).fst && (((datD (List.flatMap encB xs)).getD s40.toNat (0, 0, 0, 0, 0, 0, (0, 0, 0, 0), 0, 0, 0, 0)).snd.fst == (xs.getD s40.toNat (0, 0, 0, 0, 0, 0, (0, 0, 0, 0), 0, 0, 0, 0)).snd.fst && (((datD (List.flatMap encB xs)).getD s40.toNat (0, 0, 0, 0, 0, 0, (0, 0, 0, 0), 0, 0, 0, 0)).snd.snd.fst == (xs.getD s40.toNat (0, 0, 0, 0, 0, 0, (0, 0, 0, 0), 0, 0, 0, 0)).snd.snd.fst && (((datD (List.flatMap encB xs)).getD s40.toNat (0, 0, 0, 0, 0, 0, (0, 0, 0, 0), 0, 0, 0, 0)).snd.snd.snd.fst == (xs.getD s40.toNat (0, 0, 0, 0, 0, 0, (0, 0, 0, 0), 0, 0, 0, 0)).snd.snd.snd.fst && (((datD (List.flatMap encB xs)).getD s40.toNat (0, 0, 0, 0, 0, 0, (0, 0, 0, 0), 0, 0, 0, 0)).snd.snd.snd.snd.fst == (xs.getD s40.toNat (0, 0, 0, 0, 0, 0, (0, 0, 0, 0), 0, 0, 0, 0)).snd.snd.snd.snd.fst && (((datD (List.flatMap encB xs)).getD s40.toNat (0, 0, 0, 0, 0, 0, (0, 0, 0, 0), 0, 0, 0, 0)).snd.snd.snd.snd.snd.fst == (xs.getD s40.toNat (0, 0, 0, 0, 0, 0, (0, 0, 0, 0), 0, 0, 0, 0)).snd.snd.snd.snd.snd.fst && (((datD (List.flatMap encB xs)).getD s40.toNat (0, 0, 0, 0, 0, 0, (0, 0, 0, 0), 0, 0, 0, 0)).snd.snd.snd.snd.snd.snd.fst.fst == (xs.getD s40.toNat (0, 0, 0, 0, 0, 0, (0, 0, 0, 0), 0, 0, 0, 0)).snd.snd.snd.snd.snd.snd.fst.fst && (((datD (List.flatMap encB xs)).getD s40.toNat (0, 0, 0, 0, 0, 0, (0, 0, 0, 0), 0, 0, 0, 0)).snd.snd.snd.snd.snd.snd.fst.snd.fst == (xs.getD s40.toNat (0, 0, 0, 0, 0, 0, (0, 0, 0, 0), 0, 0, 0, 0)).snd.snd.snd.snd.snd.snd.fst.snd.fst && (((datD (List.flatMap encB xs)).getD s40.toNat (0, 0, 0, 0, 0, 0, (0, 0, 0, 0), 0, 0, 0, 0)).snd.snd.snd.snd.snd.snd.fst.snd.snd.fst == (xs.getD s40.toNat (0, 0, 0, 0, 0, 0, (0, 0, 0, 0), 0, 0, 0, 0)).snd.snd.snd.snd.snd.snd.fst.snd.snd.fst && (((datD (List.flatMap encB xs)).getD s40.toNat (0, 0, 0, 0, 0, 0, (0, 0, 0, 0), 0, 0, 0, 0)).snd.snd.snd.snd.snd.snd.fst.snd.snd.snd == (xs.getD s40.toNat (0, 0, 0, 0, 0, 0, (0, 0, 0, 0), 0, 0, 0, 0)).snd.snd.snd.snd.snd.snd.fst.snd.snd.snd && true))) && (((datD (List.flatMap encB xs)).getD s40.toNat (0, 0, 0, 0, 0, 0, (0, 0, 0, 0), 0, 0, 0, 0)).snd.snd.snd.snd.snd.snd.snd.fst == (xs.getD s40.toNat (0, 0, 0, 0, 0, 0, (0, 0, 0, 0), 0, 0, 0, 0)).snd.snd.snd.snd.snd.snd.snd.fst && (((datD (List.flatMap encB xs)).getD s40.toNat (0, 0, 0, 0, 0, 0, (0, 0, 0, 0), 0, 0, 0, 0)).snd.snd.snd.snd.snd.snd.snd.snd.fst == (xs.getD s40.toNat (0, 0, 0, 0, 0, 0, (0, 0, 0, 0), 0, 0, 0, 0)).snd.snd.snd.snd.snd.snd.snd.snd.fst && (((datD (List.flatMap encB xs)).getD s40.toNat (0, 0, 0, 0, 0, 0, (0, 0, 0, 0), 0, 0, 0, 0)).snd.snd.snd.snd.snd.snd.snd.snd.snd.fst == (xs.getD s40.toNat (0, 0, 0, 0, 0, 0, (0, 0, 0, 0), 0, 0, 0, 0)).snd.snd.snd.snd.snd.snd.snd.snd.snd.fst && (((datD (List.flatMap encB xs)).getD s40.toNat (0, 0, 0, 0, 0, 0, (0, 0, 0, 0), 0, 0, 0, 0)).snd.snd.snd.snd.snd.snd.snd.snd.snd.snd == (xs.getD s40.toNat (0, 0, 0, 0, 0, 0, (0, 0, 0, 0), 0, 0, 0, 0)).snd.snd.snd.snd.snd.snd.snd.snd.snd.snd && true))) && true)))))))) then R (AV.bool false) [] else J (f9_head1 xs (IntKind.i64.wrap (s40 + 1))) else R (AV.bool true) []
theorem f9_eq1 (R : AV → List Ob → Prop) (xs : List TB.den) (J : St → Prop) (s40 : Int) : codeA tab eS4 (subC [1, 1, 1, 1, 1, 1, 0, 1, 0, 0] (bodyOf Try.f9)) f9_live1 (f9_head1 xs s40) (thenA (fun s => J (St.tidy f9_live1 s)) (f9_q1 R)) = f9_rhs1 R xs J s40 := by kernel_rfl
theorem f9_rule1 (R : AV → List Ob → Prop) (xs : List TB.den) (I : Nat → (Int) → Prop) (n : Nat) (s40 : Int) (h0 : I n s40) (h : ∀ n, ∀ (s40 : Int), I n s40 → f9_rhs1 R xs (fun t => ∃ m, m < n ∧ ∃ (s40 : Int), t = f9_head1 xs s40 ∧ I m s40) s40) : f9_loop1 R xs s40 :=
  loop_intro (fun n t => ∃ (s40 : Int), t = f9_head1 xs s40 ∧ I n s40) n ⟨s40, rfl, h0⟩ (fun n t ht => by obtain ⟨s40, rfl, hI⟩ := ht; exact Eq.mpr (f9_eq1 R xs (fun t => ∃ m, m < n ∧ ∃ (s40 : Int), t = f9_head1 xs s40 ∧ I m s40) s40) (h n s40 hI))
theorem f9_run (R : AV → List Ob → Prop) (xs : List TB.den) : fnA tab eS4 Try.f9 (bodyOf Try.f9) [.list 66 TB xs] R = (bif decide ((↑xs.length : Int) > 60) then R (AV.bool true) [] else xs.length ≤ 4096 ∧ xs.length ≤ 65536 ∧ xs.length ≤ 65536 ∧ (List.flatMap encB xs).length ≤ 9223372036854775807 ∧ bif !decide (List.flatMap encB xs = List.flatMap encB xs) then R (AV.bool false) [] else (List.flatMap encB xs).length ≤ 9223372036854775807 ∧ bif !errD (List.flatMap encB xs) != 0 then bif (↑(datD (List.flatMap encB xs)).length : Int) != (↑xs.length : Int) then R (AV.bool false) [] else f9_loop1 R xs 0 else R (AV.bool false) []) := by kernel_rfl
def f10_live1 : List Nat := [39, 38, 39, 37, 39, 5, 39, 6, 3, 0, 2]
def f10_head1 (xs : List (Ty.int IntKind.i64).den) (s39 : Int) : St := { slots := [AV.list 3 (Ty.int IntKind.i64) xs, AV.undef, AV.bool false, AV.row 0, AV.undef, AV.row 1, AV.int IntKind.i64 (errD xs)] ++ List.replicate 30 AV.undef ++ [AV.row 0, AV.int IntKind.i64 (↑(datD xs).length : Int), AV.int IntKind.i64 s39] ++ List.replicate 20 AV.undef, obs := [Ob.row 72 ((Ty.int IntKind.i64).pair ((Ty.int IntKind.i64).pair ((Ty.int IntKind.i64).pair ((Ty.int IntKind.i64).pair ((Ty.int IntKind.i64).pair ((Ty.int IntKind.i64).pair (((Ty.int IntKind.i64).pair ((Ty.int IntKind.i64).pair ((Ty.int IntKind.i64).pair (Ty.int IntKind.i64)))).pair ((Ty.int IntKind.i64).pair ((Ty.int IntKind.i64).pair ((Ty.int IntKind.i64).pair (Ty.int IntKind.i64))))))))))) (datD xs), Ob.row 66 ((Ty.int IntKind.i64).pair ((Ty.int IntKind.i64).pair ((Ty.int IntKind.i64).pair ((Ty.int IntKind.i64).pair ((Ty.int IntKind.i64).pair ((Ty.int IntKind.i64).pair (((Ty.int IntKind.i64).pair ((Ty.int IntKind.i64).pair ((Ty.int IntKind.i64).pair (Ty.int IntKind.i64)))).pair ((Ty.int IntKind.i64).pair ((Ty.int IntKind.i64).pair ((Ty.int IntKind.i64).pair (Ty.int IntKind.i64))))))))))) (datD xs)] }
def f10_q1 (R : AV → List Ob → Prop) : Ex → St → Prop := blockA 0 (seqQ tab eS4 (subC [1, 1, 1, 1, 1, 1] (bodyOf Try.f10)) [2] (endA tab Try.f10 R))
def f10_loop1 (R : AV → List Ob → Prop) (xs : List (Ty.int IntKind.i64).den) (s39 : Int) : Prop := loopT f10_live1 (codeA tab eS4 (subC [1, 1, 1, 1, 1, 0, 1, 0, 0] (bodyOf Try.f10)) f10_live1) (f10_head1 xs s39) (f10_q1 R)
set_option maxHeartbeats 2000000 in
def f10_rhs1 (R : AV → List Ob → Prop) (xs : List (Ty.int IntKind.i64).den) (J : St → Prop) (s39 : Int) : Prop := bif decide (s39 < (↑(datD xs).length : Int)) then 0 ≤ s39 ∧ s39 < (↑(datD xs).length : Int) ∧ 0 ≤ s39 ∧ s39 < (↑(datD xs).length : Int) ∧ bif !(((datD xs).getD s39.toNat (0, 0, 0, 0, 0, 0, (0, 0, 0, 0), 0, 0, 0, 0)).fst == ((datD xs).getD s39.toNat (0, 0, 0, 0, 0, 0, (0, 0, 0, 0), 0, 0, 0, 0)).fst && (((datD xs).getD s39.toNat (0, 0, 0, 0, 0, 0, (0, 0, 0, 0), 0, 0, 0, 0)).snd.fst == ((datD xs).getD s39.toNat (0, 0, 0, 0, 0, 0, (0, 0, 0, 0), 0, 0, 0, 0)).snd.fst && (((datD xs).getD s39.toNat (0, 0, 0, 0, 0, 0, (0, 0, 0, 0), 0, 0, 0, 0)).snd.snd.fst == ((datD xs).getD s39.toNat (0, 0, 0, 0, 0, 0, (0, 0, 0, 0), 0, 0, 0, 0)).snd.snd.fst && (((datD xs).getD s39.toNat (0, 0, 0, 0, 0, 0, (0, 0, 0, 0), 0, 0, 0, 0)).snd.snd.snd.fst == ((datD xs).getD s39.toNat (0, 0, 0, 0, 0, 0, (0, 0, 0, 0), 0, 0, 0, 0)).snd.snd.snd.fst && (((datD xs).getD s39.toNat (0, 0, 0, 0, 0, 0, (0, 0, 0, 0), 0, 0, 0, 0)).snd.snd.snd.snd.fst == ((datD xs).getD s39.toNat (0, 0, 0, 0, 0, 0, (0, 0, 0, 0), 0, 0, 0, 0)).snd.snd.snd.snd.fst && (((datD xs).getD s39.toNat (0, 0, 0, 0, 0, 0, (0, 0, 0, 0), 0, 0, 0, 0)).snd.snd.snd.snd.snd.fst == ((datD xs).getD s39.toNat (0, 0, 0, 0, 0, 0, (0, 0, 0, 0), 0, 0, 0, 0)).snd.snd.snd.snd.snd.fst && (((datD xs).getD s39.toNat (0, 0, 0, 0, 0, 0, (0, 0, 0, 0), 0, 0, 0, 0)).snd.snd.snd.snd.snd.snd.fst.fst == ((datD xs).getD s39.toNat (0, 0, 0, 0, 0, 0, (0, 0, 0, 0), 0, 0, 0, 0)).snd.snd.snd.snd.snd.snd.fst.fst && (((datD xs).getD s39.toNat (0, 0, 0, 0, 0, 0, (0, 0, 0, 0), 0, 0, 0, 0)).snd.snd.snd.snd.snd.snd.fst.snd.fst == ((datD xs).getD s39.toNat (0, 0, 0, 0, 0, 0, (0, 0, 0, 0), 0, 0, 0, 0)).snd.snd.snd.snd.snd.snd.fst.snd.fst && (((datD xs).getD s39.toNat (0, 0, 0, 0, 0, 0, (0, 0, 0, 0), 0, 0, 0, 0)).snd.snd.snd.snd.snd.snd.fst.snd.snd.fst == ((datD xs).getD s39.toNat (0, 0, 0, 0, 0, 0, (0, 0, 0, 0), 0, 0, 0, 0)).snd.snd.snd.snd.snd.snd.fst.snd.snd.fst && (((datD xs).getD s39.toNat (0, 0, 0, 0, 0, 0, (0, 0, 0, 0), 0, 0, 0, 0)).snd.snd.snd.snd.snd.snd.fst.snd.snd.snd == ((datD xs).getD s39.toNat (0, 0, 0, 0, 0, 0, (0, 0, 0, 0), 0, 0, 0, 0)).snd.snd.snd.snd.snd.snd.fst.snd.snd.snd && true))) && (((datD xs).getD s39.toNat (0, 0, 0, 0, 0, 0, (0, 0, 0, 0), 0, 0, 0, 0)).snd.snd.snd.snd.snd.snd.snd.fst == ((datD xs).getD s39.toNat (0, 0, 0, 0, 0, 0, (0, 0, 0, 0), 0, 0, 0, 0)).snd.snd.snd.snd.snd.snd.snd.fst && (((datD xs).getD s39.toNat (0, 0, 0, 0, 0, 0, (0, 0, 0, 0), 0, 0, 0, 0)).snd.snd.snd.snd.snd.snd.snd.snd.fst == ((datD xs).getD s39.toNat (0, 0, 0, 0, 0, 0, (0, 0, 0, 0), 0, 0, 0, 0)).snd.snd.snd.snd.snd.snd.snd.snd.fst && (((datD xs).getD s39.toNat (0, 0, 0, 0, 0, 0, (0, 0, 0, 0), 0, 0, 0, 0)).snd.snd.snd.snd.snd.snd.snd.snd.snd.fst == ((datD xs).getD s39.toNat (0, 0, 0, 0, 0, 0, (0, 0, 0, 0), 0, 0, 0, 0)).snd.snd.snd.snd.snd.snd.snd.snd.snd.fst && (((datD xs).getD s39.toNat (0, 0, 0, 0, 0, 0, (0, 0, 0, 0), 0, 0, 0, 0)).snd.snd.snd.snd.snd.snd.snd.snd.snd.snd == ((datD xs).getD s39.toNat (0, 0, 0, 0, 0, 0, (0, 0, 0, 0), 0, 0, 0, 0)).snd.snd.snd.snd.snd.snd.snd.snd.snd.snd && true))) && true)))))))) then R (AV.bool false) [] else J (f10_head1 xs (IntKind.i64.wrap (s39 + 1))) else bif !errD xs != 0 then (datD xs).length ≤ 65536 ∧ (List.flatMap encB (datD xs)).length ≤ 9223372036854775807 ∧ R (AV.bool (decide (List.flatMap encB (datD xs) = xs))) [] else R (AV.bool true) []
theorem f10_eq1 (R : AV → List Ob → Prop) (xs : List (Ty.int IntKind.i64).den) (J : St → Prop) (s39 : Int) : codeA tab eS4 (subC [1, 1, 1, 1, 1, 0, 1, 0, 0] (bodyOf Try.f10)) f10_live1 (f10_head1 xs s39) (thenA (fun s => J (St.tidy f10_live1 s)) (f10_q1 R)) = f10_rhs1 R xs J s39 := by kernel_rfl
theorem f10_rule1 (R : AV → List Ob → Prop) (xs : List (Ty.int IntKind.i64).den) (I : Nat → (Int) → Prop) (n : Nat) (s39 : Int) (h0 : I n s39) (h : ∀ n, ∀ (s39 : Int), I n s39 → f10_rhs1 R xs (fun t => ∃ m, m < n ∧ ∃ (s39 : Int), t = f10_head1 xs s39 ∧ I m s39) s39) : f10_loop1 R xs s39 :=
  loop_intro (fun n t => ∃ (s39 : Int), t = f10_head1 xs s39 ∧ I n s39) n ⟨s39, rfl, h0⟩ (fun n t ht => by obtain ⟨s39, rfl, hI⟩ := ht; exact Eq.mpr (f10_eq1 R xs (fun t => ∃ m, m < n ∧ ∃ (s39 : Int), t = f10_head1 xs s39 ∧ I m s39) s39) (h n s39 hI))
theorem f10_run (R : AV → List Ob → Prop) (xs : List (Ty.int .i64).den) : fnA tab eS4 Try.f10 (bodyOf Try.f10) [.list 3 (.int .i64) xs] R = (bif decide ((↑xs.length : Int) > 900) then R (AV.bool true) [] else xs.length ≤ 9223372036854775807 ∧ xs.length ≤ 9223372036854775807 ∧ bif !errD xs != errD xs then bif (↑(datD xs).length : Int) != (↑(datD xs).length : Int) then R (AV.bool false) [] else f10_loop1 R xs 0 else R (AV.bool false) []) := by kernel_rfl
theorem flat_get : ∀ (xs : List Bx) (i j : Nat), i < xs.length → j < 14 → (xs.flatMap encB).getD (14 * i + j) 0 = (encB (xs.getD i (0, 0, 0, 0, 0, 0, (0, 0, 0, 0), 0, 0, 0, 0))).getD j 0
  | [], i, j, h, _ => by simp at h
  | x :: xs, 0, j, _, hj => by
    rw [List.flatMap_cons, List.getD, List.getElem?_append_left (by simp only [encB, List.length_cons, List.length_nil]; omega), Nat.mul_zero, Nat.zero_add]
    rfl
  | x :: xs, i + 1, j, h, hj => by
    have e : (encB x).length = 14 := rfl
    rw [List.flatMap_cons, List.getD, List.getElem?_append_right (by omega), e, show 14 * (i + 1) + j - 14 = 14 * i + j by omega]
    exact flat_get xs i j (by simpa using h) hj
theorem bx_flat (xs : List Bx) (i : Nat) (h : i < xs.length) : bxAt (xs.flatMap encB) i = xs.getD i (0, 0, 0, 0, 0, 0, (0, 0, 0, 0), 0, 0, 0, 0) := by
  have g := fun j hj => flat_get xs i j h hj
  have g0 := g 0 (by omega)
  rw [Nat.add_zero] at g0
  unfold bxAt
  rw [g0, g 1 (by omega), g 2 (by omega), g 3 (by omega), g 4 (by omega), g 5 (by omega), g 6 (by omega), g 7 (by omega), g 8 (by omega), g 9 (by omega), g 10 (by omega), g 11 (by omega), g 12 (by omega), g 13 (by omega)]
  rfl
theorem dec_enc (xs : List Bx) : decB (xs.flatMap encB) = xs := by
  unfold decB
  rw [flat_len, Nat.mul_div_cancel_left _ (by omega)]
  apply List.ext_getElem
  · simp
  · intro i h1 h2
    rw [List.getElem_map, List.getElem_range, bx_flat xs i h2, getD_nat' _ _ i h2]
theorem of14 (l : List Int) (h : l.length = 14) : l = [l.getD 0 0, l.getD 1 0, l.getD 2 0, l.getD 3 0, l.getD 4 0, l.getD 5 0, l.getD 6 0, l.getD 7 0, l.getD 8 0, l.getD 9 0, l.getD 10 0, l.getD 11 0, l.getD 12 0, l.getD 13 0] := by
  match l, h with
  | [b0, b1, b2, b3, b4, b5, b6, b7, b8, b9, b10, b11, b12, b13], _ => rfl
theorem enc_bx (n : List Int) (q : Nat) (h : 14 * q + 14 ≤ n.length) : encB (bxAt n q) = (n.drop (14 * q)).take 14 := by
  rw [of14 _ (chunk_len n q h), chunk_get n q 0 (by omega), chunk_get n q 1 (by omega), chunk_get n q 2 (by omega), chunk_get n q 3 (by omega), chunk_get n q 4 (by omega), chunk_get n q 5 (by omega), chunk_get n q 6 (by omega), chunk_get n q 7 (by omega), chunk_get n q 8 (by omega), chunk_get n q 9 (by omega), chunk_get n q 10 (by omega), chunk_get n q 11 (by omega), chunk_get n q 12 (by omega), chunk_get n q 13 (by omega)]
  rfl
theorem enc_dec (n : List Int) : ∀ q, 14 * q ≤ n.length → ((List.range q).map (bxAt n)).flatMap encB = n.take (14 * q)
  | 0, _ => by simp
  | q + 1, h => by
    rw [dec_next, List.flatMap_append, enc_dec n q (by omega)]
    simp only [List.flatMap_cons, List.flatMap_nil, List.append_nil]
    rw [enc_bx n q (by omega), show 14 * (q + 1) = 14 * q + 14 by omega, List.take_add]
theorem err_flat (xs : List Bx) (h : xs.length ≤ 60) : errD (xs.flatMap encB) = 0 := by
  have hf := flat_len xs
  unfold errD
  rw [if_neg (by omega), if_neg (by omega)]
theorem dat_flat (xs : List Bx) (h : xs.length ≤ 60) : datD (xs.flatMap encB) = xs := by
  have hf := flat_len xs
  unfold datD
  rw [if_neg (by omega), dec_enc]
theorem dat_len (xs : List Int) : 14 * (datD xs).length ≤ xs.length := by
  unfold datD
  split
  · simp
  · simp only [decB, List.length_map, List.length_range]; omega
theorem dat_back (xs : List Int) (h : errD xs = 0) : (datD xs).flatMap encB = xs := by
  unfold errD at h
  by_cases h1 : xs.length % 14 ≠ 0
  · rw [if_pos h1] at h; omega
  · by_cases h2 : xs.length / 14 > 65536
    · rw [if_neg h1, if_pos h2] at h; omega
    · unfold datD
      rw [if_neg (by omega), decB, enc_dec xs _ (by omega), List.take_of_length_le (by omega)]
theorem law9' (xs : List Bx) (hx : xs.length ≤ maxLen) : ACalls Try.prog 9 [.list 66 TB xs] (.bool true) [] := by
  refine fn_ok envS4 tab_ok mixed Try.func9 (by kernel_rfl) (by kernel_rfl) ?_
  rw [f9_run]
  refine dec_split (fun _ => ⟨rfl, rfl⟩) (fun h => ?_)
  have hlen : xs.length ≤ 60 := by omega
  have hf := flat_len xs
  rw [err_flat xs hlen, dat_flat xs hlen]
  refine ⟨by omega, by omega, by omega, by omega, cond_no (by simp) ⟨by omega, cond_of (by simp) (cond_no (by simp) ?_)⟩⟩
  refine f9_rule1 _ xs (fun n i => ∃ k : Nat, k ≤ xs.length ∧ n = xs.length - k ∧ i = k) xs.length 0 ⟨0, by omega, by simp, rfl⟩ ?_
  rintro n i ⟨k, hk, rfl, rfl⟩
  unfold f9_rhs1
  rw [dat_flat xs hlen]
  refine dec_split (fun hlt => ⟨by omega, hlt, by omega, hlt, cond_no (by simp) ?_⟩) (fun hlt => ⟨rfl, rfl⟩)
  exact ⟨xs.length - (k + 1), by omega, _, rfl, k + 1, by omega, rfl, wrap_next k _ (by omega) hx⟩
theorem law9 (x : ArgsDen [(false, .list 66 TB)]) (h : OkArgs [(false, .list 66 TB)] x) : ACalls Try.prog 9 (argsA [(false, .list 66 TB)] x) (.bool true) [] := law9' x.1 h.1.1
theorem law10' (xs : List Int) (hx : xs.length ≤ maxLen) : ACalls Try.prog 10 [.list 3 (.int .i64) xs] (.bool true) [] := by
  refine fn_ok envS4 tab_ok mixed Try.func10 (by kernel_rfl) (by kernel_rfl) ?_
  rw [f10_run]
  refine dec_split (fun _ => ⟨rfl, rfl⟩) (fun h => ?_)
  have hlen : xs.length ≤ 900 := by omega
  have hDl := dat_len xs
  have hfl := flat_len (datD xs)
  have hback := dat_back xs
  refine ⟨hx, hx, cond_of (by simp) (cond_no (by simp) ?_)⟩
  refine f10_rule1 _ xs (fun n i => ∃ k : Nat, k ≤ (datD xs).length ∧ n = (datD xs).length - k ∧ i = k) (datD xs).length 0 ⟨0, by omega, by simp, rfl⟩ ?_
  rintro n i ⟨k, hk, rfl, rfl⟩
  unfold f10_rhs1
  refine dec_split (fun hlt => ⟨by omega, hlt, by omega, hlt, cond_no (by simp) ?_⟩) (fun hlt => ?_)
  · exact ⟨(datD xs).length - (k + 1), by omega, _, rfl, k + 1, by omega, rfl, wrap_next k (datD xs).length (by omega) (by simp only [maxLen]; omega)⟩
  refine cond_split (fun he => ⟨by omega, by omega, ?_, rfl⟩) (fun _ => ⟨rfl, rfl⟩)
  have he' : errD xs = 0 := by simpa using he
  rw [decide_eq_true (hback he')]
theorem law10 (x : ArgsDen [(false, .list 3 (.int .i64))]) (h : OkArgs [(false, .list 3 (.int .i64))] x) : ACalls Try.prog 10 (argsA [(false, .list 3 (.int .i64))] x) (.bool true) [] := law10' x.1 h.1.1

end Go.Proofs.Ytjhhkfjabaojhaa.W
