/- The law DiffTurns. -/
import Derived.Test.YtjhhkfjabaojhaaWa
import Derived.Test.YtjhhkfjabaojhaaDa
import Derived.Test.YtjhhkfjabaojhaaDd
import Derived.Test.YtjhhkfjabaojhaaAwZ
import Derived.KernelRfl
set_option linter.unusedVariables false
set_option linter.unusedSimpArgs false
namespace Go.Proofs.Ytjhhkfjabaojhaa.W
open Go Go.Proofs Go.Proofs.Ytjhhkfjabaojhaa.Aw
def consM5 : Cons := (39, con39) :: consM4
def twosM5 : Cons2 := twosM4
def pansM5 : Cons3 := pansM4
def itersM5 : Cons4 := itersM4
abbrev eM5 : Env := envOf4 consM5 twosM5 pansM5 itersM5
theorem allconsM5 : ∀ c ∈ consM5, ConOk Try.prog c := all_cons ok39 allconsM4
theorem alltwosM5 : ∀ c ∈ twosM5, ConOk2 Try.prog c := alltwosM4
theorem allpansM5 : ∀ c ∈ pansM5, ConOk3 Try.prog c := allpansM4
theorem allitersM5 : ∀ c ∈ itersM5, ConOk4 Try.prog c := allitersM4
theorem envM5 : EnvOk Try.prog eM5 := envOf4_ok _ _ _ _ allconsM5 alltwosM5 allpansM5 allitersM5
def f8_live1 : List Nat := [36, 35, 34, 36, 36, 4, 4, 5, 5, 4, 2, 4, 3, 4, 4, 4, 8]
def f8_head1 (xs : List T4.den) (ls : List TL.den) (a1 : Int) (a2 : Int) (a3 : Int) (a4 : Int) (a5 : Int) (a6 : Int) (a7 : Int) (a8 : Int) (a9 : Int) (a10 : Int) (a11 : Int) (a12 : Int) (a13 : Int) (a14 : Int) (i : Int) (u : Int) (s36 : Int) : St := { slots := [AV.undef, AV.undef, AV.int IntKind.u8 i, AV.int IntKind.u8 u, AV.ptr 0 0, AV.ptr 1 0, AV.undef, AV.undef, AV.bool false] ++ List.replicate 25 AV.undef ++ [AV.list 45 ((Ty.int IntKind.i64).pair ((Ty.int IntKind.i64).pair ((Ty.int IntKind.i64).pair (Ty.int IntKind.i64)))) xs, AV.int IntKind.i64 (↑xs.length : Int), AV.int IntKind.i64 s36] ++ List.replicate 109 AV.undef, obs := [Ob.cells 64 [AV.list 45 ((Ty.int IntKind.i64).pair ((Ty.int IntKind.i64).pair ((Ty.int IntKind.i64).pair (Ty.int IntKind.i64)))) xs, AV.list 111 ((Ty.int IntKind.i64).pair (((Ty.int IntKind.i64).pair ((Ty.int IntKind.i64).pair ((Ty.int IntKind.i64).pair (Ty.int IntKind.i64)))).pair ((Ty.int IntKind.i64).pair (Ty.int IntKind.i64)))) ls], Ob.cells 66 [AV.int IntKind.i64 a1, AV.int IntKind.i64 a2, AV.int IntKind.i64 a3, AV.int IntKind.i64 a4, AV.int IntKind.i64 a5, AV.int IntKind.i64 a6, AV.int IntKind.i64 a7, AV.int IntKind.i64 a8, AV.int IntKind.i64 a9, AV.int IntKind.i64 a10, AV.int IntKind.i64 a11, AV.int IntKind.i64 a12, AV.int IntKind.i64 a13, AV.int IntKind.i64 a14]] }
def f8_q1 (R : AV → List Ob → Prop) : Ex → St → Prop := blockA 0 (seqQ tab eM5 (subC [1, 1, 1] (bodyOf Try.f8)) [8] (endA tab Try.f8 R))
def f8_loop1 (R : AV → List Ob → Prop) (xs : List T4.den) (ls : List TL.den) (a1 : Int) (a2 : Int) (a3 : Int) (a4 : Int) (a5 : Int) (a6 : Int) (a7 : Int) (a8 : Int) (a9 : Int) (a10 : Int) (a11 : Int) (a12 : Int) (a13 : Int) (a14 : Int) (i : Int) (u : Int) (s36 : Int) : Prop := loopT f8_live1 (codeA tab eM5 (subC [1, 1, 0, 1, 0, 0] (bodyOf Try.f8)) f8_live1) (f8_head1 xs ls a1 a2 a3 a4 a5 a6 a7 a8 a9 a10 a11 a12 a13 a14 i u s36) (f8_q1 R)
def f8_live2 : List Nat := [41, 40, 41, 41, 36, 36, 35, 34, 36, 36, 4, 4, 5, 5, 4, 2, 4, 3, 4, 4, 4, 8]
def f8_head2 (xs : List T4.den) (ls : List TL.den) (a1 : Int) (a2 : Int) (a3 : Int) (a4 : Int) (a5 : Int) (a6 : Int) (a7 : Int) (a8 : Int) (a9 : Int) (a10 : Int) (a11 : Int) (a12 : Int) (a13 : Int) (a14 : Int) (i : Int) (u : Int) (s36 : Int) : St := { slots := [AV.undef, AV.undef, AV.int IntKind.u8 i, AV.int IntKind.u8 u, AV.ptr 0 0, AV.ptr 1 0, AV.undef, AV.undef, AV.bool false] ++ List.replicate 25 AV.undef ++ [AV.list 45 ((Ty.int IntKind.i64).pair ((Ty.int IntKind.i64).pair ((Ty.int IntKind.i64).pair (Ty.int IntKind.i64)))) xs, AV.int IntKind.i64 (↑xs.length : Int), AV.int IntKind.i64 s36, AV.undef, AV.undef, AV.undef, ((AV.int IntKind.i64 (xs.getD s36.toNat (0, 0, 0, 0)).fst).cons ((AV.int IntKind.i64 (xs.getD s36.toNat (0, 0, 0, 0)).snd.fst).cons ((AV.int IntKind.i64 (xs.getD s36.toNat (0, 0, 0, 0)).snd.snd.fst).cons ((AV.int IntKind.i64 (xs.getD s36.toNat (0, 0, 0, 0)).snd.snd.snd).cons AV.nl)))).agg, AV.int IntKind.i64 0] ++ List.replicate 104 AV.undef, obs := [Ob.cells 64 [AV.list 45 ((Ty.int IntKind.i64).pair ((Ty.int IntKind.i64).pair ((Ty.int IntKind.i64).pair (Ty.int IntKind.i64)))) xs, AV.list 111 ((Ty.int IntKind.i64).pair (((Ty.int IntKind.i64).pair ((Ty.int IntKind.i64).pair ((Ty.int IntKind.i64).pair (Ty.int IntKind.i64)))).pair ((Ty.int IntKind.i64).pair (Ty.int IntKind.i64)))) ls], Ob.cells 66 [AV.int IntKind.i64 a1, AV.int IntKind.i64 a2, AV.int IntKind.i64 a3, AV.int IntKind.i64 a4, AV.int IntKind.i64 a5, AV.int IntKind.i64 a6, AV.int IntKind.i64 a7, AV.int IntKind.i64 a8, AV.int IntKind.i64 a9, AV.int IntKind.i64 a10, AV.int IntKind.i64 a11, AV.int IntKind.i64 a12, AV.int IntKind.i64 a13, AV.int IntKind.i64 a14]] }
def f8_q2 (R : AV → List Ob → Prop) (J : St → Prop) : Ex → St → Prop := blockA 2 (blockA 1 (seqQ tab eM5 (subC [1, 1, 0, 1, 0, 0, 1, 1, 1] (bodyOf Try.f8)) [36, 35, 34, 36, 36, 4, 4, 5, 5, 4, 2, 4, 3, 4, 4, 4, 8] (thenA (fun s => J (St.tidy f8_live1 s)) (blockA 0 (seqQ tab eM5 (subC [1, 1, 1] (bodyOf Try.f8)) [8] (endA tab Try.f8 R))))))
def f8_loop2 (R : AV → List Ob → Prop) (xs : List T4.den) (ls : List TL.den) (a1 : Int) (a2 : Int) (a3 : Int) (a4 : Int) (a5 : Int) (a6 : Int) (a7 : Int) (a8 : Int) (a9 : Int) (a10 : Int) (a11 : Int) (a12 : Int) (a13 : Int) (a14 : Int) (i : Int) (u : Int) (s36 : Int) (J : St → Prop) : Prop := loopT f8_live2 (codeA tab eM5 (subC [1, 1, 0, 1, 0, 0, 1, 1, 0, 0, 1, 1, 0, 0] (bodyOf Try.f8)) f8_live2) (f8_head2 xs ls a1 a2 a3 a4 a5 a6 a7 a8 a9 a10 a11 a12 a13 a14 i u s36) (f8_q2 R J)
theorem f8_eq2 (R : AV → List Ob → Prop) (xs : List T4.den) (ls : List TL.den) (a1 : Int) (a2 : Int) (a3 : Int) (a4 : Int) (a5 : Int) (a6 : Int) (a7 : Int) (a8 : Int) (a9 : Int) (a10 : Int) (a11 : Int) (a12 : Int) (a13 : Int) (a14 : Int) (i : Int) (u : Int) (s36 : Int) (J : St → Prop) : loopU f8_live2 (codeA tab eM5 (subC [1, 1, 0, 1, 0, 0, 1, 1, 0, 0, 1, 1, 0, 0] (bodyOf Try.f8)) f8_live2) 40 (f8_head2 xs ls a1 a2 a3 a4 a5 a6 a7 a8 a9 a10 a11 a12 a13 a14 i u s36) (f8_q2 R J) = (bif !decide ((xs.getD s36.toNat (0, 0, 0, 0)).fst > 72057594037927936) then bif decide ((xs.getD s36.toNat (0, 0, 0, 0)).fst < -72057594037927936) then R (AV.bool true) [] else bif !decide ((xs.getD s36.toNat (0, 0, 0, 0)).snd.fst > 72057594037927936) then bif decide ((xs.getD s36.toNat (0, 0, 0, 0)).snd.fst < -72057594037927936) then R (AV.bool true) [] else bif !decide ((xs.getD s36.toNat (0, 0, 0, 0)).snd.snd.fst > 72057594037927936) then bif decide ((xs.getD s36.toNat (0, 0, 0, 0)).snd.snd.fst < -72057594037927936) then R (AV.bool true) [] else bif !decide ((xs.getD s36.toNat (0, 0, 0, 0)).snd.snd.snd > 72057594037927936) then bif decide ((xs.getD s36.toNat (0, 0, 0, 0)).snd.snd.snd < -72057594037927936) then R (AV.bool true) [] else J (f8_head1 xs ls a1 a2 a3 a4 a5 a6 a7 a8 a9 a10 a11 a12 a13 a14 i u (IntKind.i64.wrap (s36 + 1))) else R (AV.bool true) [] else R (AV.bool true) [] else R (AV.bool true) [] else R (AV.bool true) []) := by kernel_rfl
theorem f8_rule2 (R : AV → List Ob → Prop) (xs : List T4.den) (ls : List TL.den) (a1 : Int) (a2 : Int) (a3 : Int) (a4 : Int) (a5 : Int) (a6 : Int) (a7 : Int) (a8 : Int) (a9 : Int) (a10 : Int) (a11 : Int) (a12 : Int) (a13 : Int) (a14 : Int) (i : Int) (u : Int) (s36 : Int) (J : St → Prop) (h : bif !decide ((xs.getD s36.toNat (0, 0, 0, 0)).fst > 72057594037927936) then bif decide ((xs.getD s36.toNat (0, 0, 0, 0)).fst < -72057594037927936) then R (AV.bool true) [] else bif !decide ((xs.getD s36.toNat (0, 0, 0, 0)).snd.fst > 72057594037927936) then bif decide ((xs.getD s36.toNat (0, 0, 0, 0)).snd.fst < -72057594037927936) then R (AV.bool true) [] else bif !decide ((xs.getD s36.toNat (0, 0, 0, 0)).snd.snd.fst > 72057594037927936) then bif decide ((xs.getD s36.toNat (0, 0, 0, 0)).snd.snd.fst < -72057594037927936) then R (AV.bool true) [] else bif !decide ((xs.getD s36.toNat (0, 0, 0, 0)).snd.snd.snd > 72057594037927936) then bif decide ((xs.getD s36.toNat (0, 0, 0, 0)).snd.snd.snd < -72057594037927936) then R (AV.bool true) [] else J (f8_head1 xs ls a1 a2 a3 a4 a5 a6 a7 a8 a9 a10 a11 a12 a13 a14 i u (IntKind.i64.wrap (s36 + 1))) else R (AV.bool true) [] else R (AV.bool true) [] else R (AV.bool true) [] else R (AV.bool true) []) : f8_loop2 R xs ls a1 a2 a3 a4 a5 a6 a7 a8 a9 a10 a11 a12 a13 a14 i u s36 J := loop_rounds 40 (Eq.mpr (f8_eq2 R xs ls a1 a2 a3 a4 a5 a6 a7 a8 a9 a10 a11 a12 a13 a14 i u s36 J) h)
def f8_live3 : List Nat := [75, 74, 75, 73, 75, 4, 75, 2, 4, 3, 4, 13, 13, 4, 4, 8]
def f8_head3 (xs : List T4.den) (ls : List TL.den) (i : Int) (u : Int) (s75' : Int) : St := { slots := [AV.undef, AV.undef, AV.int IntKind.u8 i, AV.int IntKind.u8 u, AV.ptr 0 0, AV.undef, AV.undef, AV.undef, AV.bool false] ++ List.replicate 4 AV.undef ++ [AV.ptr 1 0] ++ List.replicate 59 AV.undef ++ [AV.row 2, AV.int IntKind.i64 (↑(List.map (mir (IntKind.i64.wrap ((xs.getD 0 (0, 0, 0, 0)).fst + (xs.getD 0 (0, 0, 0, 0)).snd.snd.fst))) xs).length : Int), AV.int IntKind.i64 s75'] ++ List.replicate 70 AV.undef, obs := [Ob.cells 64 [AV.list 45 ((Ty.int IntKind.i64).pair ((Ty.int IntKind.i64).pair ((Ty.int IntKind.i64).pair (Ty.int IntKind.i64)))) xs, AV.list 111 ((Ty.int IntKind.i64).pair (((Ty.int IntKind.i64).pair ((Ty.int IntKind.i64).pair ((Ty.int IntKind.i64).pair (Ty.int IntKind.i64)))).pair ((Ty.int IntKind.i64).pair (Ty.int IntKind.i64)))) ls], Ob.cells 40 [AV.row 2, AV.row 3], Ob.row 47 ((Ty.int IntKind.i64).pair ((Ty.int IntKind.i64).pair ((Ty.int IntKind.i64).pair (Ty.int IntKind.i64)))) (List.map (mir (IntKind.i64.wrap ((xs.getD 0 (0, 0, 0, 0)).fst + (xs.getD 0 (0, 0, 0, 0)).snd.snd.fst))) xs), Ob.row 106 ((Ty.int IntKind.i64).pair (((Ty.int IntKind.i64).pair ((Ty.int IntKind.i64).pair ((Ty.int IntKind.i64).pair (Ty.int IntKind.i64)))).pair ((Ty.int IntKind.i64).pair (Ty.int IntKind.i64)))) (List.map (mirL (IntKind.i64.wrap ((xs.getD 0 (0, 0, 0, 0)).fst + (xs.getD 0 (0, 0, 0, 0)).snd.snd.fst))) ls)] }
def f8_q3 (R : AV → List Ob → Prop) : Ex → St → Prop := blockA 4 (seqQ tab eM5 (subC [1, 1, 1, 1, 1, 1] (bodyOf Try.f8)) [8] (endA tab Try.f8 R))
def f8_loop3 (R : AV → List Ob → Prop) (xs : List T4.den) (ls : List TL.den) (i : Int) (u : Int) (s75' : Int) : Prop := loopT f8_live3 (codeA tab eM5 (subC [1, 1, 1, 1, 1, 0, 1, 0, 0] (bodyOf Try.f8)) f8_live3) (f8_head3 xs ls i u s75') (f8_q3 R)
def f8_rhs3 (R : AV → List Ob → Prop) (xs : List T4.den) (ls : List TL.den) (i : Int) (u : Int) (J1 : St → Prop) (s75' : Int) : Prop := bif decide (s75' < (↑(List.map (mir (IntKind.i64.wrap ((xs.getD 0 (0, 0, 0, 0)).fst + (xs.getD 0 (0, 0, 0, 0)).snd.snd.fst))) xs).length : Int)) then 0 ≤ s75' ∧ s75' < (↑(List.map (mir (IntKind.i64.wrap ((xs.getD 0 (0, 0, 0, 0)).fst + (xs.getD 0 (0, 0, 0, 0)).snd.snd.fst))) xs).length : Int) ∧ 0 ≤ s75' ∧ s75' < (↑xs.length : Int) ∧ (0 : Int) ≤ 1 ∧ (1 : Int) < 4 ∧ bif !((List.map (mir (IntKind.i64.wrap ((xs.getD 0 (0, 0, 0, 0)).fst + (xs.getD 0 (0, 0, 0, 0)).snd.snd.fst))) xs).getD s75'.toNat (0, 0, 0, 0)).snd.fst != (xs.getD s75'.toNat (0, 0, 0, 0)).snd.fst then (0 : Int) ≤ 3 ∧ (3 : Int) < 4 ∧ bif !((List.map (mir (IntKind.i64.wrap ((xs.getD 0 (0, 0, 0, 0)).fst + (xs.getD 0 (0, 0, 0, 0)).snd.snd.fst))) xs).getD s75'.toNat (0, 0, 0, 0)).snd.snd.snd != (xs.getD s75'.toNat (0, 0, 0, 0)).snd.snd.snd then (0 : Int) ≤ 2 ∧ (2 : Int) < 4 ∧ (0 : Int) ≤ 0 ∧ (0 : Int) < 4 ∧ bif IntKind.i64.wrap (((List.map (mir (IntKind.i64.wrap ((xs.getD 0 (0, 0, 0, 0)).fst + (xs.getD 0 (0, 0, 0, 0)).snd.snd.fst))) xs).getD s75'.toNat (0, 0, 0, 0)).snd.snd.fst - ((List.map (mir (IntKind.i64.wrap ((xs.getD 0 (0, 0, 0, 0)).fst + (xs.getD 0 (0, 0, 0, 0)).snd.snd.fst))) xs).getD s75'.toNat (0, 0, 0, 0)).fst) != IntKind.i64.wrap ((xs.getD s75'.toNat (0, 0, 0, 0)).snd.snd.fst - (xs.getD s75'.toNat (0, 0, 0, 0)).fst) then R (AV.bool false) [] else J1 (f8_head3 xs ls i u (IntKind.i64.wrap (s75' + 1))) else R (AV.bool false) [] else R (AV.bool false) [] else (↑xs.length : Int) ≠ 0 ∧ (↑xs.length : Int) ≠ 0 ∧ 0 ≤ (IntKind.i64.wrap i).tmod (↑xs.length : Int) ∧ (IntKind.i64.wrap i).tmod (↑xs.length : Int) < (↑(List.map (mir (IntKind.i64.wrap ((xs.getD 0 (0, 0, 0, 0)).fst + (xs.getD 0 (0, 0, 0, 0)).snd.snd.fst))) xs).length : Int) ∧ 0 ≤ (IntKind.i64.wrap u).tmod (↑xs.length : Int) ∧ (IntKind.i64.wrap u).tmod (↑xs.length : Int) < (↑(List.map (mir (IntKind.i64.wrap ((xs.getD 0 (0, 0, 0, 0)).fst + (xs.getD 0 (0, 0, 0, 0)).snd.snd.fst))) xs).length : Int) ∧ 0 ≤ (IntKind.i64.wrap i).tmod (↑xs.length : Int) ∧ (IntKind.i64.wrap i).tmod (↑xs.length : Int) < (↑xs.length : Int) ∧ 0 ≤ (IntKind.i64.wrap u).tmod (↑xs.length : Int) ∧ (IntKind.i64.wrap u).tmod (↑xs.length : Int) < (↑xs.length : Int) ∧ R (AV.bool (meetP (((List.map (mir (IntKind.i64.wrap ((xs.getD 0 (0, 0, 0, 0)).fst + (xs.getD 0 (0, 0, 0, 0)).snd.snd.fst))) xs).getD ((IntKind.i64.wrap i).tmod (↑xs.length : Int)).toNat (0, 0, 0, 0)).fst, ((List.map (mir (IntKind.i64.wrap ((xs.getD 0 (0, 0, 0, 0)).fst + (xs.getD 0 (0, 0, 0, 0)).snd.snd.fst))) xs).getD ((IntKind.i64.wrap i).tmod (↑xs.length : Int)).toNat (0, 0, 0, 0)).snd.fst, ((List.map (mir (IntKind.i64.wrap ((xs.getD 0 (0, 0, 0, 0)).fst + (xs.getD 0 (0, 0, 0, 0)).snd.snd.fst))) xs).getD ((IntKind.i64.wrap i).tmod (↑xs.length : Int)).toNat (0, 0, 0, 0)).snd.snd.fst, ((List.map (mir (IntKind.i64.wrap ((xs.getD 0 (0, 0, 0, 0)).fst + (xs.getD 0 (0, 0, 0, 0)).snd.snd.fst))) xs).getD ((IntKind.i64.wrap i).tmod (↑xs.length : Int)).toNat (0, 0, 0, 0)).snd.snd.snd) (((List.map (mir (IntKind.i64.wrap ((xs.getD 0 (0, 0, 0, 0)).fst + (xs.getD 0 (0, 0, 0, 0)).snd.snd.fst))) xs).getD ((IntKind.i64.wrap u).tmod (↑xs.length : Int)).toNat (0, 0, 0, 0)).fst, ((List.map (mir (IntKind.i64.wrap ((xs.getD 0 (0, 0, 0, 0)).fst + (xs.getD 0 (0, 0, 0, 0)).snd.snd.fst))) xs).getD ((IntKind.i64.wrap u).tmod (↑xs.length : Int)).toNat (0, 0, 0, 0)).snd.fst, ((List.map (mir (IntKind.i64.wrap ((xs.getD 0 (0, 0, 0, 0)).fst + (xs.getD 0 (0, 0, 0, 0)).snd.snd.fst))) xs).getD ((IntKind.i64.wrap u).tmod (↑xs.length : Int)).toNat (0, 0, 0, 0)).snd.snd.fst, ((List.map (mir (IntKind.i64.wrap ((xs.getD 0 (0, 0, 0, 0)).fst + (xs.getD 0 (0, 0, 0, 0)).snd.snd.fst))) xs).getD ((IntKind.i64.wrap u).tmod (↑xs.length : Int)).toNat (0, 0, 0, 0)).snd.snd.snd) == meetR ((xs.getD ((IntKind.i64.wrap i).tmod (↑xs.length : Int)).toNat (0, 0, 0, 0)).fst, (xs.getD ((IntKind.i64.wrap i).tmod (↑xs.length : Int)).toNat (0, 0, 0, 0)).snd.fst, (xs.getD ((IntKind.i64.wrap i).tmod (↑xs.length : Int)).toNat (0, 0, 0, 0)).snd.snd.fst, (xs.getD ((IntKind.i64.wrap i).tmod (↑xs.length : Int)).toNat (0, 0, 0, 0)).snd.snd.snd) ((xs.getD ((IntKind.i64.wrap u).tmod (↑xs.length : Int)).toNat (0, 0, 0, 0)).fst, (xs.getD ((IntKind.i64.wrap u).tmod (↑xs.length : Int)).toNat (0, 0, 0, 0)).snd.fst, (xs.getD ((IntKind.i64.wrap u).tmod (↑xs.length : Int)).toNat (0, 0, 0, 0)).snd.snd.fst, (xs.getD ((IntKind.i64.wrap u).tmod (↑xs.length : Int)).toNat (0, 0, 0, 0)).snd.snd.snd))) []
theorem f8_eq3 (R : AV → List Ob → Prop) (xs : List T4.den) (ls : List TL.den) (i : Int) (u : Int) (J1 : St → Prop) (s75' : Int) : codeA tab eM5 (subC [1, 1, 1, 1, 1, 0, 1, 0, 0] (bodyOf Try.f8)) f8_live3 (f8_head3 xs ls i u s75') (thenA (fun s => J1 (St.tidy f8_live3 s)) (f8_q3 R)) = f8_rhs3 R xs ls i u J1 s75' := by kernel_rfl
theorem f8_rule3 (R : AV → List Ob → Prop) (xs : List T4.den) (ls : List TL.den) (i : Int) (u : Int) (I : Nat → (Int) → Prop) (n : Nat) (s75' : Int) (h0 : I n s75') (h : ∀ n, ∀ (s75' : Int), I n s75' → f8_rhs3 R xs ls i u (fun t => ∃ m, m < n ∧ ∃ (s75' : Int), t = f8_head3 xs ls i u s75' ∧ I m s75') s75') : f8_loop3 R xs ls i u s75' :=
  loop_intro (fun n t => ∃ (s75' : Int), t = f8_head3 xs ls i u s75' ∧ I n s75') n ⟨s75', rfl, h0⟩ (fun n t ht => by obtain ⟨s75', rfl, hI⟩ := ht; exact Eq.mpr (f8_eq3 R xs ls i u (fun t => ∃ m, m < n ∧ ∃ (s75' : Int), t = f8_head3 xs ls i u s75' ∧ I m s75') s75') (h n s75' hI))
def f8_rhs1 (R : AV → List Ob → Prop) (xs : List T4.den) (ls : List TL.den) (a1 : Int) (a2 : Int) (a3 : Int) (a4 : Int) (a5 : Int) (a6 : Int) (a7 : Int) (a8 : Int) (a9 : Int) (a10 : Int) (a11 : Int) (a12 : Int) (a13 : Int) (a14 : Int) (i : Int) (u : Int) (J : St → Prop) (s36 : Int) : Prop := bif decide (s36 < (↑xs.length : Int)) then 0 ≤ s36 ∧ s36 < (↑xs.length : Int) ∧ f8_loop2 R xs ls a1 a2 a3 a4 a5 a6 a7 a8 a9 a10 a11 a12 a13 a14 i u s36 J else xs.length ≤ 4096 ∧ ls.length ≤ 4096 ∧ xs.length ≤ 4096 ∧ ls.length ≤ 4096 ∧ 0 < xs.length ∧ bif !(↑(List.map (mir (IntKind.i64.wrap ((xs.getD 0 (0, 0, 0, 0)).fst + (xs.getD 0 (0, 0, 0, 0)).snd.snd.fst))) xs).length : Int) != (↑xs.length : Int) then bif checkR a1 a2 a3 a4 a5 a6 a7 a8 a9 a10 a11 a12 a13 a14 != checkR a1 a2 (turnSide a3) (turnSide a4) a5 a6 a7 a10 a9 a8 a11 a14 a13 a12 then R (AV.bool false) [] else f8_loop3 R xs ls i u 0 else R (AV.bool false) []
theorem f8_eq1 (R : AV → List Ob → Prop) (xs : List T4.den) (ls : List TL.den) (a1 : Int) (a2 : Int) (a3 : Int) (a4 : Int) (a5 : Int) (a6 : Int) (a7 : Int) (a8 : Int) (a9 : Int) (a10 : Int) (a11 : Int) (a12 : Int) (a13 : Int) (a14 : Int) (i : Int) (u : Int) (J : St → Prop) (s36 : Int) : codeA tab eM5 (subC [1, 1, 0, 1, 0, 0] (bodyOf Try.f8)) f8_live1 (f8_head1 xs ls a1 a2 a3 a4 a5 a6 a7 a8 a9 a10 a11 a12 a13 a14 i u s36) (thenA (fun s => J (St.tidy f8_live1 s)) (f8_q1 R)) = f8_rhs1 R xs ls a1 a2 a3 a4 a5 a6 a7 a8 a9 a10 a11 a12 a13 a14 i u J s36 := by kernel_rfl
theorem f8_rule1 (R : AV → List Ob → Prop) (xs : List T4.den) (ls : List TL.den) (a1 : Int) (a2 : Int) (a3 : Int) (a4 : Int) (a5 : Int) (a6 : Int) (a7 : Int) (a8 : Int) (a9 : Int) (a10 : Int) (a11 : Int) (a12 : Int) (a13 : Int) (a14 : Int) (i : Int) (u : Int) (I : Nat → (Int) → Prop) (n : Nat) (s36 : Int) (h0 : I n s36) (h : ∀ n, ∀ (s36 : Int), I n s36 → f8_rhs1 R xs ls a1 a2 a3 a4 a5 a6 a7 a8 a9 a10 a11 a12 a13 a14 i u (fun t => ∃ m, m < n ∧ ∃ (s36 : Int), t = f8_head1 xs ls a1 a2 a3 a4 a5 a6 a7 a8 a9 a10 a11 a12 a13 a14 i u s36 ∧ I m s36) s36) : f8_loop1 R xs ls a1 a2 a3 a4 a5 a6 a7 a8 a9 a10 a11 a12 a13 a14 i u s36 :=
  loop_intro (fun n t => ∃ (s36 : Int), t = f8_head1 xs ls a1 a2 a3 a4 a5 a6 a7 a8 a9 a10 a11 a12 a13 a14 i u s36 ∧ I n s36) n ⟨s36, rfl, h0⟩ (fun n t ht => by obtain ⟨s36, rfl, hI⟩ := ht; exact Eq.mpr (f8_eq1 R xs ls a1 a2 a3 a4 a5 a6 a7 a8 a9 a10 a11 a12 a13 a14 i u (fun t => ∃ m, m < n ∧ ∃ (s36 : Int), t = f8_head1 xs ls a1 a2 a3 a4 a5 a6 a7 a8 a9 a10 a11 a12 a13 a14 i u s36 ∧ I m s36) s36) (h n s36 hI))
theorem f8_run (R : AV → List Ob → Prop) (xs : List T4.den) (ls : List TL.den) (a1 a2 a3 a4 a5 a6 a7 a8 a9 a10 a11 a12 a13 a14 i u : Int) : fnA tab eM5 Try.f8 (bodyOf Try.f8) [.agg (.cons (.list 45 T4 xs) (.cons (.list 111 TL ls) .nl)), .agg (.cons (.int .i64 a1) (.cons (.int .i64 a2) (.cons (.int .i64 a3) (.cons (.int .i64 a4) (.cons (.int .i64 a5) (.cons (.int .i64 a6) (.cons (.int .i64 a7) (.cons (.int .i64 a8) (.cons (.int .i64 a9) (.cons (.int .i64 a10) (.cons (.int .i64 a11) (.cons (.int .i64 a12) (.cons (.int .i64 a13) (.cons (.int .i64 a14) .nl)))))))))))))), .int .u8 i, .int .u8 u] R = (xs.length ≤ 9223372036854775807 ∧ ls.length ≤ 9223372036854775807 ∧ bif !!small xs ls then bif (↑xs.length : Int) == 0 then R (AV.bool true) [] else f8_loop1 R xs ls a1 a2 a3 a4 a5 a6 a7 a8 a9 a10 a11 a12 a13 a14 i u 0 else R (AV.bool true) []) := by kernel_rfl
theorem ite_iff {p q : Prop} [Decidable p] [Decidable q] (h : p ↔ q) (a b : Int) : (if p then a else b) = if q then a else b := by
  by_cases hp : p
  · rw [if_pos hp, if_pos (h.1 hp)]
  · rw [if_neg hp, if_neg (fun hq => hp (h.2 hq))]
theorem or_ite (p q : Prop) [Decidable p] [Decidable q] (a b : Int) : (if p then a else if q then a else b) = if p ∨ q then a else b := by
  by_cases hp : p
  · rw [if_pos hp, if_pos (.inl hp)]
  · rw [if_neg hp]; exact ite_iff ⟨.inr, fun h => h.resolve_left hp⟩ a b
theorem c12_eq (a1 a2 a11 a12 a13 a14 : Int) : c12 a1 a2 a11 a12 a13 a14 = if (a11 < 0 ∨ a2 = 5 ∧ a11 ≠ 0) ∨ (a12 < 0 ∨ a2 = 5 ∧ a12 ≠ 0) ∨ (a13 < 0 ∨ a2 = 5 ∧ a13 ≠ 0) ∨ (a14 < 0 ∨ a2 = 5 ∧ a14 ≠ 0) then 9 else c17 a1 := by
  unfold c12 c14 c15 c16
  rw [or_ite, or_ite, or_ite]
  exact ite_iff (by simp only [or_assoc]) _ _
theorem c7_eq (a1 a2 a7 a8 a9 a10 a11 a12 a13 a14 : Int) : c7 a1 a2 a7 a8 a9 a10 a11 a12 a13 a14 = if a2 = 5 ∧ a7 ≠ 0 ∨ a2 = 5 ∧ a8 ≠ 0 ∨ a2 = 5 ∧ a9 ≠ 0 ∨ a2 = 5 ∧ a10 ≠ 0 then 8 else c12 a1 a2 a11 a12 a13 a14 := by
  unfold c7 c9 c10 c11
  rw [or_ite, or_ite, or_ite]
  exact ite_iff (by simp only [or_assoc]) _ _
theorem check_turn (a1 a2 a3 a4 a5 a6 a7 a8 a9 a10 a11 a12 a13 a14 : Int) : checkR a1 a2 (turnSide a3) (turnSide a4) a5 a6 a7 a10 a9 a8 a11 a14 a13 a12 = checkR a1 a2 a3 a4 a5 a6 a7 a8 a9 a10 a11 a12 a13 a14 := by
  have h12 : c12 a1 a2 a11 a14 a13 a12 = c12 a1 a2 a11 a12 a13 a14 := by rw [c12_eq, c12_eq]; exact ite_iff (by omega) _ _
  have h7 : c7 a1 a2 a7 a10 a9 a8 a11 a14 a13 a12 = c7 a1 a2 a7 a8 a9 a10 a11 a12 a13 a14 := by rw [c7_eq, c7_eq, h12]; exact ite_iff (by omega) _ _
  have h5 : c5 a1 a2 a5 a6 a7 a10 a9 a8 a11 a14 a13 a12 = c5 a1 a2 a5 a6 a7 a8 a9 a10 a11 a12 a13 a14 := by unfold c5; rw [h7]
  have t4 : (turnSide a4 < 0 ∨ 3 < turnSide a4 ∨ a2 = 5 ∧ turnSide a4 ≠ 0) ↔ (a4 < 0 ∨ 3 < a4 ∨ a2 = 5 ∧ a4 ≠ 0) := by
    unfold turnSide
    split
    · omega
    · split <;> omega
  have t3 : (a2 = 2 ∧ turnSide a3 ≠ 1 ∧ turnSide a3 ≠ 2 ∨ a2 ≠ 2 ∧ turnSide a3 ≠ 0) ↔ (a2 = 2 ∧ a3 ≠ 1 ∧ a3 ≠ 2 ∨ a2 ≠ 2 ∧ a3 ≠ 0) := by
    unfold turnSide
    split
    · omega
    · split <;> omega
  have h3 : c3 a1 a2 (turnSide a4) a5 a6 a7 a10 a9 a8 a11 a14 a13 a12 = c3 a1 a2 a4 a5 a6 a7 a8 a9 a10 a11 a12 a13 a14 := by unfold c3; rw [h5]; exact ite_iff t4 _ _
  have h2 : c2 a1 a2 (turnSide a3) (turnSide a4) a5 a6 a7 a10 a9 a8 a11 a14 a13 a12 = c2 a1 a2 a3 a4 a5 a6 a7 a8 a9 a10 a11 a12 a13 a14 := by unfold c2; rw [h3]; exact ite_iff t3 _ _
  have hb : bigs a5 a6 a7 a10 a9 a8 a11 a14 a13 a12 = bigs a5 a6 a7 a8 a9 a10 a11 a12 a13 a14 := by simp only [bigs]; ac_rfl
  unfold checkR
  rw [h2, hb]
def nr (r : Rc4) : Prop := (-72057594037927936 ≤ r.1 ∧ r.1 ≤ 72057594037927936) ∧ (-72057594037927936 ≤ r.2.1 ∧ r.2.1 ≤ 72057594037927936) ∧ (-72057594037927936 ≤ r.2.2.1 ∧ r.2.2.1 ≤ 72057594037927936) ∧ (-72057594037927936 ≤ r.2.2.2 ∧ r.2.2.2 ≤ 72057594037927936)
theorem quad56 (r : Rc4) (X Y : Prop) (hy : Y) (hx : nr r → X) : bif !decide (r.1 > 72057594037927936) then bif decide (r.1 < -72057594037927936) then Y else bif !decide (r.2.1 > 72057594037927936) then bif decide (r.2.1 < -72057594037927936) then Y else bif !decide (r.2.2.1 > 72057594037927936) then bif decide (r.2.2.1 < -72057594037927936) then Y else bif !decide (r.2.2.2 > 72057594037927936) then bif decide (r.2.2.2 < -72057594037927936) then Y else X else Y else Y else Y else Y := by
  obtain ⟨a, b, c, d⟩ := r
  refine ndec_split (fun h1 => dec_split (fun h2 => hy) (fun h2 => ?_)) (fun h1 => hy)
  refine ndec_split (fun h3 => dec_split (fun h4 => hy) (fun h4 => ?_)) (fun h3 => hy)
  refine ndec_split (fun h5 => dec_split (fun h6 => hy) (fun h6 => ?_)) (fun h5 => hy)
  refine ndec_split (fun h7 => dec_split (fun h8 => hy) (fun h8 => ?_)) (fun h7 => hy)
  exact hx (by simp only [nr] at *; omega)
theorem meet_mir (x : Int) (r s : Rc4) (hx : -144115188075855872 ≤ x ∧ x ≤ 144115188075855872) (hr : nr r) (hs : nr s) : meetP (mir x r) (mir x s) = meetR r s := by
  obtain ⟨a, b, c, d⟩ := r
  obtain ⟨e, f, g, h⟩ := s
  simp only [nr] at hr hs
  refine decide_eq_decide.2 ?_
  simp only [mir]
  rw [wrap_id (x - a) (by omega), wrap_id (x - c) (by omega), wrap_id (x - e) (by omega), wrap_id (x - g) (by omega), wrap_id _ (by omega), wrap_id _ (by omega)]
  omega
theorem wide_mir (x : Int) (r : Rc4) (hx : -144115188075855872 ≤ x ∧ x ≤ 144115188075855872) (hr : nr r) : IntKind.wrap .i64 ((mir x r).2.2.1 - (mir x r).1) = IntKind.wrap .i64 (r.2.2.1 - r.1) := by
  simp only [nr] at hr
  simp only [mir]
  rw [wrap_id (x - r.1) (by omega), wrap_id (x - r.2.2.1) (by omega)]
  congr 1
  omega
theorem law8' (xs : List Rc4) (ls : List Ln) (a1 a2 a3 a4 a5 a6 a7 a8 a9 a10 a11 a12 a13 a14 i u : Int) (hx : xs.length ≤ maxLen) (hl : ls.length ≤ maxLen) (bi : 0 ≤ i ∧ i ≤ 255) (bm : 0 ≤ u ∧ u ≤ 255) :
    ACalls Try.prog 8 [.agg (.cons (.list 45 T4 xs) (.cons (.list 111 TL ls) .nl)), .agg (.cons (.int .i64 a1) (.cons (.int .i64 a2) (.cons (.int .i64 a3) (.cons (.int .i64 a4) (.cons (.int .i64 a5) (.cons (.int .i64 a6) (.cons (.int .i64 a7) (.cons (.int .i64 a8) (.cons (.int .i64 a9) (.cons (.int .i64 a10) (.cons (.int .i64 a11) (.cons (.int .i64 a12) (.cons (.int .i64 a13) (.cons (.int .i64 a14) .nl)))))))))))))), .int .u8 i, .int .u8 u] (.bool true) [] := by
  refine fn_ok envM5 tab_ok mixed Try.func8 (by kernel_rfl) (by kernel_rfl) ?_
  rw [f8_run]
  refine ⟨hx, hl, cond_split (fun g1 => cond_split (fun _ => ⟨rfl, rfl⟩) (fun g2 => ?_)) (fun _ => ⟨rfl, rfl⟩)⟩
  have hsm : xs.length ≤ 60 ∧ ls.length ≤ 60 := by
    rw [Bool.not_not] at g1
    simp only [small, Bool.and_eq_true, decide_eq_true_eq] at g1
    exact g1.1
  have hne : 0 < xs.length := by simp at g2; exact Nat.pos_of_ne_zero (fun e => g2 (List.length_eq_zero_iff.1 e))
  refine f8_rule1 _ xs ls a1 a2 a3 a4 a5 a6 a7 a8 a9 a10 a11 a12 a13 a14 i u (fun n j => ∃ k : Nat, k ≤ xs.length ∧ n = xs.length - k ∧ j = k ∧ ∀ r ∈ xs.take k, nr r) xs.length 0 ⟨0, by omega, by simp, rfl, by simp⟩ ?_
  rintro n j ⟨k, hk, rfl, rfl, hall⟩
  unfold f8_rhs1
  refine dec_split (fun hlt => ⟨by omega, hlt, ?_⟩) (fun hlt => ?_)
  · have hlt' : k < xs.length := by omega
    refine f8_rule2 _ xs ls a1 a2 a3 a4 a5 a6 a7 a8 a9 a10 a11 a12 a13 a14 i u _ _ ?_
    rw [getD_nat xs (0, 0, 0, 0) k hlt', wrap_next k _ hlt' hx]
    refine quad56 xs[k] _ _ ⟨rfl, rfl⟩ (fun h => ⟨xs.length - (k + 1), by omega, _, rfl, k + 1, by omega, rfl, rfl, fun r hr => ?_⟩)
    rw [take_next xs k hlt', List.mem_append] at hr
    rcases hr with hr | hr
    · exact hall r hr
    · rw [List.mem_singleton] at hr; rw [hr]; exact h
  rw [take_all xs k (by omega)] at hall
  refine ⟨by omega, by omega, by omega, by omega, hne, cond_of (by simp) (cond_no (by rw [check_turn]; simp) ?_)⟩
  have h0 := hall xs[0] (List.getElem_mem _)
  have e0 : xs.getD 0 (0, 0, 0, 0) = xs[0] := getD_nat' xs _ 0 hne
  have hA : -144115188075855872 ≤ (IntKind.wrap .i64 ((xs.getD 0 (0, 0, 0, 0)).1 + (xs.getD 0 (0, 0, 0, 0)).2.2.1)) ∧ (IntKind.wrap .i64 ((xs.getD 0 (0, 0, 0, 0)).1 + (xs.getD 0 (0, 0, 0, 0)).2.2.1)) ≤ 144115188075855872 := by
    rw [e0]
    simp only [nr] at h0
    rw [wrap_id _ (by omega)]
    omega
  refine f8_rule3 _ xs ls i u (fun n j => ∃ k : Nat, k ≤ xs.length ∧ n = xs.length - k ∧ j = k) xs.length 0 ⟨0, by omega, by simp, rfl⟩ ?_
  rintro n j ⟨k', hk', rfl, rfl⟩
  unfold f8_rhs3
  generalize (IntKind.wrap .i64 ((xs.getD 0 (0, 0, 0, 0)).1 + (xs.getD 0 (0, 0, 0, 0)).2.2.1)) = ax at hA
  have hget : ∀ (q : Nat), q < xs.length → (List.map (mir ax) xs).getD q (0, 0, 0, 0) = mir ax (xs.getD q (0, 0, 0, 0)) := fun q hq => by
    rw [getD_nat' _ _ q (by rw [List.length_map]; exact hq), getD_nat' _ _ q hq, List.getElem_map]
  have hnr : ∀ (q : Nat), q < xs.length → nr (xs.getD q (0, 0, 0, 0)) := fun q hq => by
    rw [getD_nat' _ _ q hq]; exact hall _ (List.getElem_mem _)
  rw [List.length_map]
  refine dec_split (fun hlt => ?_) (fun hlt => ?_)
  · have hlt' : k' < xs.length := by omega
    rw [Int.toNat_natCast, hget k' hlt', wide_mir ax _ hA (hnr k' hlt')]
    refine ⟨by omega, hlt, by omega, hlt, dec_and rfl (dec_and rfl (cond_of (by simp [mir]) (dec_and rfl (dec_and rfl (cond_of (by simp [mir]) (dec_and rfl (dec_and rfl (dec_and rfl (dec_and rfl (cond_no (by simp) ?_))))))))))⟩
    exact ⟨xs.length - (k' + 1), by omega, _, rfl, k' + 1, by omega, rfl, wrap_next k' _ hlt' hx⟩
  rw [wrap_id i (by omega), wrap_id u (by omega)]
  have q1 : 0 ≤ i.tmod (xs.length : Int) := Int.tmod_nonneg _ bi.1
  have q2 : i.tmod (xs.length : Int) < (xs.length : Int) := Int.tmod_lt_of_pos _ (by omega)
  have q3 : 0 ≤ u.tmod (xs.length : Int) := Int.tmod_nonneg _ bm.1
  have q4 : u.tmod (xs.length : Int) < (xs.length : Int) := Int.tmod_lt_of_pos _ (by omega)
  refine ⟨by omega, by omega, q1, q2, q3, q4, q1, q2, q3, q4, ?_, rfl⟩
  rw [hget _ (by omega), hget _ (by omega)]
  have e := meet_mir ax (xs.getD (i.tmod (xs.length : Int)).toNat (0, 0, 0, 0)) (xs.getD (u.tmod (xs.length : Int)).toNat (0, 0, 0, 0)) hA (hnr _ (by omega)) (hnr _ (by omega))
  have e2 := beq_iff_eq.2 e
  exact congrArg AV.bool e2
theorem law8 (x : ArgsDen [(true, .pair (.list 45 T4) (.list 111 TL)), (true, .pair (.int .i64) (.pair (.int .i64) (.pair (.int .i64) (.pair (.int .i64) (.pair (.int .i64) (.pair (.int .i64) (.pair T4 T4))))))), (false, .int .u8), (false, .int .u8)]) (h : OkArgs [(true, .pair (.list 45 T4) (.list 111 TL)), (true, .pair (.int .i64) (.pair (.int .i64) (.pair (.int .i64) (.pair (.int .i64) (.pair (.int .i64) (.pair (.int .i64) (.pair T4 T4))))))), (false, .int .u8), (false, .int .u8)] x) : ACalls Try.prog 8 (argsA [(true, .pair (.list 45 T4) (.list 111 TL)), (true, .pair (.int .i64) (.pair (.int .i64) (.pair (.int .i64) (.pair (.int .i64) (.pair (.int .i64) (.pair (.int .i64) (.pair T4 T4))))))), (false, .int .u8), (false, .int .u8)] x) (.bool true) [] := by
  obtain ⟨⟨xs, ls⟩, ⟨a1, a2, a3, a4, a5, a6, ⟨a7, a8, a9, a10⟩, a11, a12, a13, a14⟩, i, u, _⟩ := x
  exact law8' xs ls a1 a2 a3 a4 a5 a6 a7 a8 a9 a10 a11 a12 a13 a14 i u h.1.1.1 h.1.2.1 (u8_of i h.2.2.1) (u8_of u h.2.2.2.1)

end Go.Proofs.Ytjhhkfjabaojhaa.W
