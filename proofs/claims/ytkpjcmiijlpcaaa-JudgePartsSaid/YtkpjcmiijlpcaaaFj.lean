/- Layer 20's judge, where there is one fault at most. -/
import Derived.Test.YtkpjcmiijlpcaaaWa
import Derived.Test.YtkpjcmiijlpcaaaEa
import Derived.Test.YtkpjcmiijlpcaaaFa
import Derived.Test.YtkpjcmiijlpcaaaFb
import Derived.Test.YtkpjcmiijlpcaaaFc
import Derived.Test.YtkpjcmiijlpcaaaFd
import Derived.Test.YtkpjcmiijlpcaaaFe
import Derived.Test.YtkpjcmiijlpcaaaFf
import Derived.Test.YtkpjcmiijlpcaaaFg
import Derived.Test.YtkpjcmiijlpcaaaFh
import Derived.Test.YtkpjcmiijlpcaaaFi
import Derived.Test.YtkpjcmiijlpcaaaAwZ
import Derived.KernelRfl
set_option linter.unusedVariables false
set_option linter.unusedSimpArgs false
namespace Go.Proofs.Ytkpjcmiijlpcaaa.W
open Go Go.Proofs Go.Proofs.Ytkpjcmiijlpcaaa.Aw
noncomputable section
def consZz0 : Cons := []
def twosZz0 : Cons2 := []
def pansZz0 : Cons3 := []
def itersZz0 : Cons4 := []
abbrev eZz0 : Env := envOf4 consZz0 twosZz0 pansZz0 itersZz0
theorem allconsZz0 : ∀ c ∈ consZz0, ConOk Try.prog c := all_nil
theorem alltwosZz0 : ∀ c ∈ twosZz0, ConOk2 Try.prog c := all_nil
theorem allpansZz0 : ∀ c ∈ pansZz0, ConOk3 Try.prog c := all_nil
theorem allitersZz0 : ∀ c ∈ itersZz0, ConOk4 Try.prog c := all_nil
theorem envZz0 : EnvOk Try.prog eZz0 := envOf4_ok _ _ _ _ allconsZz0 alltwosZz0 allpansZz0 allitersZz0
def tab8 : ByteArray := ⟨#[0, 1, 2, 2, 3, 3, 3, 3, 4, 4, 4, 4, 4, 4, 4, 4, 5, 5, 5, 5, 5, 5, 5, 5, 5, 5, 5, 5, 5, 5, 5, 5, 6, 6, 6, 6, 6, 6, 6, 6, 6, 6, 6, 6, 6, 6, 6, 6, 6, 6, 6, 6, 6, 6, 6, 6, 6, 6, 6, 6, 6, 6, 6, 6, 7, 7, 7, 7, 7, 7, 7, 7, 7, 7, 7, 7, 7, 7, 7, 7, 7, 7, 7, 7, 7, 7, 7, 7, 7, 7, 7, 7, 7, 7, 7, 7, 7, 7, 7, 7, 7, 7, 7, 7, 7, 7, 7, 7, 7, 7, 7, 7, 7, 7, 7, 7, 7, 7, 7, 7, 7, 7, 7, 7, 7, 7, 7, 7, 8, 8, 8, 8, 8, 8, 8, 8, 8, 8, 8, 8, 8, 8, 8, 8, 8, 8, 8, 8, 8, 8, 8, 8, 8, 8, 8, 8, 8, 8, 8, 8, 8, 8, 8, 8, 8, 8, 8, 8, 8, 8, 8, 8, 8, 8, 8, 8, 8, 8, 8, 8, 8, 8, 8, 8, 8, 8, 8, 8, 8, 8, 8, 8, 8, 8, 8, 8, 8, 8, 8, 8, 8, 8, 8, 8, 8, 8, 8, 8, 8, 8, 8, 8, 8, 8, 8, 8, 8, 8, 8, 8, 8, 8, 8, 8, 8, 8, 8, 8, 8, 8, 8, 8, 8, 8, 8, 8, 8, 8, 8, 8, 8, 8, 8, 8, 8, 8, 8, 8, 8, 8, 8, 8, 8, 8, 8, 8]⟩
theorem wrap_u8 (x : Int) (h0 : 0 ≤ x) (h1 : x < 256) : IntKind.wrap .u8 x = x := by
  simp only [IntKind.wrap, IntKind.bits]
  simp [IntKind.signed]
  omega
theorem wrap_u64 (x : Int) (h0 : 0 ≤ x) (h1 : x < 18446744073709551616) : IntKind.wrap .u64 x = x := by
  simp only [IntKind.wrap, IntKind.bits]
  simp [IntKind.signed]
  omega
theorem strAt_lt (s : ByteArray) (i : Nat) : 0 ≤ strAt s i ∧ strAt s i < 256 := by
  unfold strAt
  split
  · rename_i h
    have := (s[i]'h).toNat_lt
    omega
  · omega
def con81 : List AV → Option Tells
  | [.int .u64 x] => some ⟨[0 ≤ x, x < 256], .int .i64 (blk (strAt tab8 x.toNat)), []⟩
  | _ => none
set_option maxHeartbeats 2000000 in
theorem f81_run (R : AV → List Ob → Prop) (x : Int) : fnA tab eZz0 Try.f81 (bodyOf Try.f81) [.int .u64 x] R = (bif decide (x ≥ 4294967296) then (0 : Int) ≤ 32 ∧ bif decide (x.fdiv 4294967296 ≥ 65536) then (0 : Int) ≤ 16 ∧ bif decide ((x.fdiv 4294967296).fdiv 65536 ≥ 256) then (0 : Int) ≤ 8 ∧ 0 ≤ IntKind.u8.wrap (((x.fdiv 4294967296).fdiv 65536).fdiv 256) ∧ IntKind.u8.wrap (((x.fdiv 4294967296).fdiv 65536).fdiv 256) < 256 ∧ R (AV.int IntKind.i64 (IntKind.i64.wrap (56 + IntKind.i64.wrap (strAt { data := (([0, 1, 2, 2, 3, 3, 3, 3, 4, 4, 4, 4, 4, 4, 4, 4, 5, 5, 5, 5, 5, 5, 5, 5, 5, 5, 5, 5, 5, 5, 5, 5, 6, 6, 6, 6, 6, 6, 6, 6, 6, 6, 6, 6, 6, 6, 6, 6, 6, 6, 6, 6, 6, 6, 6, 6, 6, 6, 6, 6, 6, 6, 6, 6].append [7, 7, 7, 7, 7, 7, 7, 7, 7, 7, 7, 7, 7, 7, 7, 7, 7, 7, 7, 7, 7, 7, 7, 7, 7, 7, 7, 7, 7, 7, 7, 7, 7, 7, 7, 7, 7, 7, 7, 7, 7, 7, 7, 7, 7, 7, 7, 7, 7, 7, 7, 7, 7, 7, 7, 7, 7, 7, 7, 7, 7, 7, 7, 7]).append ([8, 8, 8, 8, 8, 8, 8, 8, 8, 8, 8, 8, 8, 8, 8, 8, 8, 8, 8, 8, 8, 8, 8, 8, 8, 8, 8, 8, 8, 8, 8, 8, 8, 8, 8, 8, 8, 8, 8, 8, 8, 8, 8, 8, 8, 8, 8, 8, 8, 8, 8, 8, 8, 8, 8, 8, 8, 8, 8, 8, 8, 8, 8, 8].append [8, 8, 8, 8, 8, 8, 8, 8, 8, 8, 8, 8, 8, 8, 8, 8, 8, 8, 8, 8, 8, 8, 8, 8, 8, 8, 8, 8, 8, 8, 8, 8, 8, 8, 8, 8, 8, 8, 8, 8, 8, 8, 8, 8, 8, 8, 8, 8, 8, 8, 8, 8, 8, 8, 8, 8, 8, 8, 8, 8, 8, 8, 8, 8])).toArray } (IntKind.u8.wrap (((x.fdiv 4294967296).fdiv 65536).fdiv 256)).toNat)))) [] else 0 ≤ IntKind.u8.wrap ((x.fdiv 4294967296).fdiv 65536) ∧ IntKind.u8.wrap ((x.fdiv 4294967296).fdiv 65536) < 256 ∧ R (AV.int IntKind.i64 (IntKind.i64.wrap (48 + IntKind.i64.wrap (strAt { data := (([0, 1, 2, 2, 3, 3, 3, 3, 4, 4, 4, 4, 4, 4, 4, 4, 5, 5, 5, 5, 5, 5, 5, 5, 5, 5, 5, 5, 5, 5, 5, 5, 6, 6, 6, 6, 6, 6, 6, 6, 6, 6, 6, 6, 6, 6, 6, 6, 6, 6, 6, 6, 6, 6, 6, 6, 6, 6, 6, 6, 6, 6, 6, 6].append [7, 7, 7, 7, 7, 7, 7, 7, 7, 7, 7, 7, 7, 7, 7, 7, 7, 7, 7, 7, 7, 7, 7, 7, 7, 7, 7, 7, 7, 7, 7, 7, 7, 7, 7, 7, 7, 7, 7, 7, 7, 7, 7, 7, 7, 7, 7, 7, 7, 7, 7, 7, 7, 7, 7, 7, 7, 7, 7, 7, 7, 7, 7, 7]).append ([8, 8, 8, 8, 8, 8, 8, 8, 8, 8, 8, 8, 8, 8, 8, 8, 8, 8, 8, 8, 8, 8, 8, 8, 8, 8, 8, 8, 8, 8, 8, 8, 8, 8, 8, 8, 8, 8, 8, 8, 8, 8, 8, 8, 8, 8, 8, 8, 8, 8, 8, 8, 8, 8, 8, 8, 8, 8, 8, 8, 8, 8, 8, 8].append [8, 8, 8, 8, 8, 8, 8, 8, 8, 8, 8, 8, 8, 8, 8, 8, 8, 8, 8, 8, 8, 8, 8, 8, 8, 8, 8, 8, 8, 8, 8, 8, 8, 8, 8, 8, 8, 8, 8, 8, 8, 8, 8, 8, 8, 8, 8, 8, 8, 8, 8, 8, 8, 8, 8, 8, 8, 8, 8, 8, 8, 8, 8, 8])).toArray } (IntKind.u8.wrap ((x.fdiv 4294967296).fdiv 65536)).toNat)))) [] else bif decide (x.fdiv 4294967296 ≥ 256) then (0 : Int) ≤ 8 ∧ 0 ≤ IntKind.u8.wrap ((x.fdiv 4294967296).fdiv 256) ∧ IntKind.u8.wrap ((x.fdiv 4294967296).fdiv 256) < 256 ∧ R (AV.int IntKind.i64 (IntKind.i64.wrap (40 + IntKind.i64.wrap (strAt { data := (([0, 1, 2, 2, 3, 3, 3, 3, 4, 4, 4, 4, 4, 4, 4, 4, 5, 5, 5, 5, 5, 5, 5, 5, 5, 5, 5, 5, 5, 5, 5, 5, 6, 6, 6, 6, 6, 6, 6, 6, 6, 6, 6, 6, 6, 6, 6, 6, 6, 6, 6, 6, 6, 6, 6, 6, 6, 6, 6, 6, 6, 6, 6, 6].append [7, 7, 7, 7, 7, 7, 7, 7, 7, 7, 7, 7, 7, 7, 7, 7, 7, 7, 7, 7, 7, 7, 7, 7, 7, 7, 7, 7, 7, 7, 7, 7, 7, 7, 7, 7, 7, 7, 7, 7, 7, 7, 7, 7, 7, 7, 7, 7, 7, 7, 7, 7, 7, 7, 7, 7, 7, 7, 7, 7, 7, 7, 7, 7]).append ([8, 8, 8, 8, 8, 8, 8, 8, 8, 8, 8, 8, 8, 8, 8, 8, 8, 8, 8, 8, 8, 8, 8, 8, 8, 8, 8, 8, 8, 8, 8, 8, 8, 8, 8, 8, 8, 8, 8, 8, 8, 8, 8, 8, 8, 8, 8, 8, 8, 8, 8, 8, 8, 8, 8, 8, 8, 8, 8, 8, 8, 8, 8, 8].append [8, 8, 8, 8, 8, 8, 8, 8, 8, 8, 8, 8, 8, 8, 8, 8, 8, 8, 8, 8, 8, 8, 8, 8, 8, 8, 8, 8, 8, 8, 8, 8, 8, 8, 8, 8, 8, 8, 8, 8, 8, 8, 8, 8, 8, 8, 8, 8, 8, 8, 8, 8, 8, 8, 8, 8, 8, 8, 8, 8, 8, 8, 8, 8])).toArray } (IntKind.u8.wrap ((x.fdiv 4294967296).fdiv 256)).toNat)))) [] else 0 ≤ IntKind.u8.wrap (x.fdiv 4294967296) ∧ IntKind.u8.wrap (x.fdiv 4294967296) < 256 ∧ R (AV.int IntKind.i64 (IntKind.i64.wrap (32 + IntKind.i64.wrap (strAt { data := (([0, 1, 2, 2, 3, 3, 3, 3, 4, 4, 4, 4, 4, 4, 4, 4, 5, 5, 5, 5, 5, 5, 5, 5, 5, 5, 5, 5, 5, 5, 5, 5, 6, 6, 6, 6, 6, 6, 6, 6, 6, 6, 6, 6, 6, 6, 6, 6, 6, 6, 6, 6, 6, 6, 6, 6, 6, 6, 6, 6, 6, 6, 6, 6].append [7, 7, 7, 7, 7, 7, 7, 7, 7, 7, 7, 7, 7, 7, 7, 7, 7, 7, 7, 7, 7, 7, 7, 7, 7, 7, 7, 7, 7, 7, 7, 7, 7, 7, 7, 7, 7, 7, 7, 7, 7, 7, 7, 7, 7, 7, 7, 7, 7, 7, 7, 7, 7, 7, 7, 7, 7, 7, 7, 7, 7, 7, 7, 7]).append ([8, 8, 8, 8, 8, 8, 8, 8, 8, 8, 8, 8, 8, 8, 8, 8, 8, 8, 8, 8, 8, 8, 8, 8, 8, 8, 8, 8, 8, 8, 8, 8, 8, 8, 8, 8, 8, 8, 8, 8, 8, 8, 8, 8, 8, 8, 8, 8, 8, 8, 8, 8, 8, 8, 8, 8, 8, 8, 8, 8, 8, 8, 8, 8].append [8, 8, 8, 8, 8, 8, 8, 8, 8, 8, 8, 8, 8, 8, 8, 8, 8, 8, 8, 8, 8, 8, 8, 8, 8, 8, 8, 8, 8, 8, 8, 8, 8, 8, 8, 8, 8, 8, 8, 8, 8, 8, 8, 8, 8, 8, 8, 8, 8, 8, 8, 8, 8, 8, 8, 8, 8, 8, 8, 8, 8, 8, 8, 8])).toArray } (IntKind.u8.wrap (x.fdiv 4294967296)).toNat)))) [] else bif decide (x ≥ 65536) then (0 : Int) ≤ 16 ∧ bif decide (x.fdiv 65536 ≥ 256) then (0 : Int) ≤ 8 ∧ 0 ≤ IntKind.u8.wrap ((x.fdiv 65536).fdiv 256) ∧ IntKind.u8.wrap ((x.fdiv 65536).fdiv 256) < 256 ∧ R (AV.int IntKind.i64 (IntKind.i64.wrap (24 + IntKind.i64.wrap (strAt { data := (([0, 1, 2, 2, 3, 3, 3, 3, 4, 4, 4, 4, 4, 4, 4, 4, 5, 5, 5, 5, 5, 5, 5, 5, 5, 5, 5, 5, 5, 5, 5, 5, 6, 6, 6, 6, 6, 6, 6, 6, 6, 6, 6, 6, 6, 6, 6, 6, 6, 6, 6, 6, 6, 6, 6, 6, 6, 6, 6, 6, 6, 6, 6, 6].append [7, 7, 7, 7, 7, 7, 7, 7, 7, 7, 7, 7, 7, 7, 7, 7, 7, 7, 7, 7, 7, 7, 7, 7, 7, 7, 7, 7, 7, 7, 7, 7, 7, 7, 7, 7, 7, 7, 7, 7, 7, 7, 7, 7, 7, 7, 7, 7, 7, 7, 7, 7, 7, 7, 7, 7, 7, 7, 7, 7, 7, 7, 7, 7]).append ([8, 8, 8, 8, 8, 8, 8, 8, 8, 8, 8, 8, 8, 8, 8, 8, 8, 8, 8, 8, 8, 8, 8, 8, 8, 8, 8, 8, 8, 8, 8, 8, 8, 8, 8, 8, 8, 8, 8, 8, 8, 8, 8, 8, 8, 8, 8, 8, 8, 8, 8, 8, 8, 8, 8, 8, 8, 8, 8, 8, 8, 8, 8, 8].append [8, 8, 8, 8, 8, 8, 8, 8, 8, 8, 8, 8, 8, 8, 8, 8, 8, 8, 8, 8, 8, 8, 8, 8, 8, 8, 8, 8, 8, 8, 8, 8, 8, 8, 8, 8, 8, 8, 8, 8, 8, 8, 8, 8, 8, 8, 8, 8, 8, 8, 8, 8, 8, 8, 8, 8, 8, 8, 8, 8, 8, 8, 8, 8])).toArray } (IntKind.u8.wrap ((x.fdiv 65536).fdiv 256)).toNat)))) [] else 0 ≤ IntKind.u8.wrap (x.fdiv 65536) ∧ IntKind.u8.wrap (x.fdiv 65536) < 256 ∧ R (AV.int IntKind.i64 (IntKind.i64.wrap (16 + IntKind.i64.wrap (strAt { data := (([0, 1, 2, 2, 3, 3, 3, 3, 4, 4, 4, 4, 4, 4, 4, 4, 5, 5, 5, 5, 5, 5, 5, 5, 5, 5, 5, 5, 5, 5, 5, 5, 6, 6, 6, 6, 6, 6, 6, 6, 6, 6, 6, 6, 6, 6, 6, 6, 6, 6, 6, 6, 6, 6, 6, 6, 6, 6, 6, 6, 6, 6, 6, 6].append [7, 7, 7, 7, 7, 7, 7, 7, 7, 7, 7, 7, 7, 7, 7, 7, 7, 7, 7, 7, 7, 7, 7, 7, 7, 7, 7, 7, 7, 7, 7, 7, 7, 7, 7, 7, 7, 7, 7, 7, 7, 7, 7, 7, 7, 7, 7, 7, 7, 7, 7, 7, 7, 7, 7, 7, 7, 7, 7, 7, 7, 7, 7, 7]).append ([8, 8, 8, 8, 8, 8, 8, 8, 8, 8, 8, 8, 8, 8, 8, 8, 8, 8, 8, 8, 8, 8, 8, 8, 8, 8, 8, 8, 8, 8, 8, 8, 8, 8, 8, 8, 8, 8, 8, 8, 8, 8, 8, 8, 8, 8, 8, 8, 8, 8, 8, 8, 8, 8, 8, 8, 8, 8, 8, 8, 8, 8, 8, 8].append [8, 8, 8, 8, 8, 8, 8, 8, 8, 8, 8, 8, 8, 8, 8, 8, 8, 8, 8, 8, 8, 8, 8, 8, 8, 8, 8, 8, 8, 8, 8, 8, 8, 8, 8, 8, 8, 8, 8, 8, 8, 8, 8, 8, 8, 8, 8, 8, 8, 8, 8, 8, 8, 8, 8, 8, 8, 8, 8, 8, 8, 8, 8, 8])).toArray } (IntKind.u8.wrap (x.fdiv 65536)).toNat)))) [] else bif decide (x ≥ 256) then (0 : Int) ≤ 8 ∧ 0 ≤ IntKind.u8.wrap (x.fdiv 256) ∧ IntKind.u8.wrap (x.fdiv 256) < 256 ∧ R (AV.int IntKind.i64 (IntKind.i64.wrap (8 + IntKind.i64.wrap (strAt { data := (([0, 1, 2, 2, 3, 3, 3, 3, 4, 4, 4, 4, 4, 4, 4, 4, 5, 5, 5, 5, 5, 5, 5, 5, 5, 5, 5, 5, 5, 5, 5, 5, 6, 6, 6, 6, 6, 6, 6, 6, 6, 6, 6, 6, 6, 6, 6, 6, 6, 6, 6, 6, 6, 6, 6, 6, 6, 6, 6, 6, 6, 6, 6, 6].append [7, 7, 7, 7, 7, 7, 7, 7, 7, 7, 7, 7, 7, 7, 7, 7, 7, 7, 7, 7, 7, 7, 7, 7, 7, 7, 7, 7, 7, 7, 7, 7, 7, 7, 7, 7, 7, 7, 7, 7, 7, 7, 7, 7, 7, 7, 7, 7, 7, 7, 7, 7, 7, 7, 7, 7, 7, 7, 7, 7, 7, 7, 7, 7]).append ([8, 8, 8, 8, 8, 8, 8, 8, 8, 8, 8, 8, 8, 8, 8, 8, 8, 8, 8, 8, 8, 8, 8, 8, 8, 8, 8, 8, 8, 8, 8, 8, 8, 8, 8, 8, 8, 8, 8, 8, 8, 8, 8, 8, 8, 8, 8, 8, 8, 8, 8, 8, 8, 8, 8, 8, 8, 8, 8, 8, 8, 8, 8, 8].append [8, 8, 8, 8, 8, 8, 8, 8, 8, 8, 8, 8, 8, 8, 8, 8, 8, 8, 8, 8, 8, 8, 8, 8, 8, 8, 8, 8, 8, 8, 8, 8, 8, 8, 8, 8, 8, 8, 8, 8, 8, 8, 8, 8, 8, 8, 8, 8, 8, 8, 8, 8, 8, 8, 8, 8, 8, 8, 8, 8, 8, 8, 8, 8])).toArray } (IntKind.u8.wrap (x.fdiv 256)).toNat)))) [] else 0 ≤ IntKind.u8.wrap x ∧ IntKind.u8.wrap x < 256 ∧ R (AV.int IntKind.i64 (IntKind.i64.wrap (0 + IntKind.i64.wrap (strAt { data := (([0, 1, 2, 2, 3, 3, 3, 3, 4, 4, 4, 4, 4, 4, 4, 4, 5, 5, 5, 5, 5, 5, 5, 5, 5, 5, 5, 5, 5, 5, 5, 5, 6, 6, 6, 6, 6, 6, 6, 6, 6, 6, 6, 6, 6, 6, 6, 6, 6, 6, 6, 6, 6, 6, 6, 6, 6, 6, 6, 6, 6, 6, 6, 6].append [7, 7, 7, 7, 7, 7, 7, 7, 7, 7, 7, 7, 7, 7, 7, 7, 7, 7, 7, 7, 7, 7, 7, 7, 7, 7, 7, 7, 7, 7, 7, 7, 7, 7, 7, 7, 7, 7, 7, 7, 7, 7, 7, 7, 7, 7, 7, 7, 7, 7, 7, 7, 7, 7, 7, 7, 7, 7, 7, 7, 7, 7, 7, 7]).append ([8, 8, 8, 8, 8, 8, 8, 8, 8, 8, 8, 8, 8, 8, 8, 8, 8, 8, 8, 8, 8, 8, 8, 8, 8, 8, 8, 8, 8, 8, 8, 8, 8, 8, 8, 8, 8, 8, 8, 8, 8, 8, 8, 8, 8, 8, 8, 8, 8, 8, 8, 8, 8, 8, 8, 8, 8, 8, 8, 8, 8, 8, 8, 8].append [8, 8, 8, 8, 8, 8, 8, 8, 8, 8, 8, 8, 8, 8, 8, 8, 8, 8, 8, 8, 8, 8, 8, 8, 8, 8, 8, 8, 8, 8, 8, 8, 8, 8, 8, 8, 8, 8, 8, 8, 8, 8, 8, 8, 8, 8, 8, 8, 8, 8, 8, 8, 8, 8, 8, 8, 8, 8, 8, 8, 8, 8, 8, 8])).toArray } (IntKind.u8.wrap x).toNat)))) []) := by kernel_rfl
theorem ok81 : ConOk Try.prog (81, con81) := by
  intro args t h hp
  change con81 args = some t at h
  unfold con81 at h
  split at h
  · rename_i x
    cases h
    refine fn_ok envZz0 tab_ok mixed Try.func81 (by kernel_rfl) (by kernel_rfl) ?_
    rw [f81_run]
    try dsimp only
    have h0 := hp (0 ≤ x) (by simp)
    have h1 := hp (x < 256) (by simp)
    clear hp
    rw [blk_eq]
    have hw : IntKind.wrap .u8 x = x := wrap_u8 x h0 h1
    refine dec_no (by omega) (dec_no (by omega) (dec_no (by omega) ?_))
    rw [hw]
    have hs := strAt_lt tab8 x.toNat
    refine ⟨h0, h1, ?_, rfl⟩
    show AV.int .i64 (IntKind.wrap .i64 (0 + IntKind.wrap .i64 (strAt tab8 x.toNat))) = _
    rw [wrap_id (strAt tab8 x.toNat) (by omega), Int.zero_add, wrap_id _ (by omega)]
  · cases h
def consZz1 : Cons := (81, con81) :: consZz0
def twosZz1 : Cons2 := twosZz0
def pansZz1 : Cons3 := pansZz0
def itersZz1 : Cons4 := itersZz0
abbrev eZz1 : Env := envOf4 consZz1 twosZz1 pansZz1 itersZz1
theorem allconsZz1 : ∀ c ∈ consZz1, ConOk Try.prog c := all_cons ok81 allconsZz0
theorem alltwosZz1 : ∀ c ∈ twosZz1, ConOk2 Try.prog c := alltwosZz0
theorem allpansZz1 : ∀ c ∈ pansZz1, ConOk3 Try.prog c := allpansZz0
theorem allitersZz1 : ∀ c ∈ itersZz1, ConOk4 Try.prog c := allitersZz0
theorem envZz1 : EnvOk Try.prog eZz1 := envOf4_ok _ _ _ _ allconsZz1 alltwosZz1 allpansZz1 allitersZz1
def con63 : List AV → Option Tells
  | [.int .u64 x] => some ⟨[0 ≤ x, x < 256], .int .i64 (blk (strAt tab8 x.toNat)), []⟩
  | _ => none
theorem f63_run (R : AV → List Ob → Prop) (x : Int) : fnA tab eZz1 Try.f63 (bodyOf Try.f63) [.int .u64 x] R = (0 ≤ x ∧ x < 256 ∧ R (AV.int IntKind.i64 (blk (strAt tab8 x.toNat))) []) := by kernel_rfl
theorem ok63 : ConOk Try.prog (63, con63) := by
  intro args t h hp
  change con63 args = some t at h
  unfold con63 at h
  split at h
  · rename_i x
    cases h
    refine fn_ok envZz1 tab_ok mixed Try.func63 (by kernel_rfl) (by kernel_rfl) ?_
    rw [f63_run]
    try dsimp only
    exact ⟨hp (0 ≤ x) (by simp), hp (x < 256) (by simp), rfl, rfl⟩
  · cases h
def consZz2 : Cons := (63, con63) :: consZz1
def twosZz2 : Cons2 := twosZz1
def pansZz2 : Cons3 := pansZz1
def itersZz2 : Cons4 := itersZz1
abbrev eZz2 : Env := envOf4 consZz2 twosZz2 pansZz2 itersZz2
theorem allconsZz2 : ∀ c ∈ consZz2, ConOk Try.prog c := all_cons ok63 allconsZz1
theorem alltwosZz2 : ∀ c ∈ twosZz2, ConOk2 Try.prog c := alltwosZz1
theorem allpansZz2 : ∀ c ∈ pansZz2, ConOk3 Try.prog c := allpansZz1
theorem allitersZz2 : ∀ c ∈ itersZz2, ConOk4 Try.prog c := allitersZz1
theorem envZz2 : EnvOk Try.prog eZz2 := envOf4_ok _ _ _ _ allconsZz2 alltwosZz2 allpansZz2 allitersZz2
def con72 : List AV → List Ob → Option Tells2
  | [.row 0, .int .i64 0, .int .i64 b1, .fn (.func 45) .nl .nl], [.row 78 (.pair (.int .i64) (.pair (.int .i64) (.int .i64))) fs] => some ⟨[b1 ≤ 1], .tuple .nl, [none], []⟩
  | _, _ => none
def f72_live1 : List Nat := [8, 2, 8, 1, 3, 0, 0, 0, 0, 0, 0, 8]
def f72_head1 (b1 : Int) (fs : List TF.den)  : St := { slots := [AV.row 0, AV.int IntKind.i64 0, AV.int IntKind.i64 b1, AV.fn (Fn.func 45) AV.nl AV.nl] ++ List.replicate 4 AV.undef ++ [AV.int IntKind.i64 1] ++ List.replicate 44 AV.undef, obs := [Ob.row 78 ((Ty.int IntKind.i64).pair ((Ty.int IntKind.i64).pair (Ty.int IntKind.i64))) fs], n := 1 }
def f72_q1 (R : AV → List Ob → Prop) : Ex → St → Prop := blockA 0 (endA tab Try.f72 R)
def f72_loop1 (R : AV → List Ob → Prop) (b1 : Int) (fs : List TF.den)  : Prop := loopT f72_live1 (codeA tab eZz2 (subC [1, 0, 0] (bodyOf Try.f72)) f72_live1) (f72_head1 b1 fs) (f72_q1 R)
def f72_live2 : List Nat := [9, 1, 3, 0, 9, 0, 9, 0, 9, 0, 9, 0, 9, 0, 9, 9, 8, 8, 2, 8, 1, 3, 0, 0, 0, 0, 0, 0, 8]
def f72_head2 (b1 : Int) (fs : List TF.den)  : St := { slots := [AV.row 0, AV.int IntKind.i64 0, AV.int IntKind.i64 b1, AV.fn (Fn.func 45) AV.nl AV.nl] ++ List.replicate 4 AV.undef ++ [AV.int IntKind.i64 1, AV.int IntKind.i64 1] ++ List.replicate 43 AV.undef, obs := [Ob.row 78 ((Ty.int IntKind.i64).pair ((Ty.int IntKind.i64).pair (Ty.int IntKind.i64))) fs], n := 1 }
def f72_q2 (R : AV → List Ob → Prop) (J : St → Prop) : Ex → St → Prop := blockA 2 (blockA 1 (seqQ tab eZz2 (subC [1, 0, 0, 1, 1] (bodyOf Try.f72)) [8, 2, 8, 1, 3, 0, 0, 0, 0, 0, 0, 8] (thenA (fun s => J (St.tidy f72_live1 s)) (blockA 0 (endA tab Try.f72 R)))))
def f72_loop2 (R : AV → List Ob → Prop) (b1 : Int) (fs : List TF.den) (J : St → Prop)  : Prop := loopT f72_live2 (codeA tab eZz2 (subC [1, 0, 0, 1, 0, 0, 1, 0, 0] (bodyOf Try.f72)) f72_live2) (f72_head2 b1 fs) (f72_q2 R J)
def f72_rhs1 (R : AV → List Ob → Prop) (b1 : Int) (fs : List TF.den) (J : St → Prop)  : Prop := bif decide (1 < b1) then f72_loop2 R b1 fs J else R AV.nl.tuple [Ob.row 78 ((Ty.int IntKind.i64).pair ((Ty.int IntKind.i64).pair (Ty.int IntKind.i64))) fs]
theorem f72_eq1 (R : AV → List Ob → Prop) (b1 : Int) (fs : List TF.den) (J : St → Prop)  : codeA tab eZz2 (subC [1, 0, 0] (bodyOf Try.f72)) f72_live1 (f72_head1 b1 fs) (thenA (fun s => J (St.tidy f72_live1 s)) (f72_q1 R)) = f72_rhs1 R b1 fs J  := by kernel_rfl
theorem f72_rule1 (R : AV → List Ob → Prop) (b1 : Int) (fs : List TF.den) (I : Nat → Prop) (n : Nat)  (h0 : I n ) (h : ∀ n, I n  → f72_rhs1 R b1 fs (fun t => ∃ m, m < n ∧ t = f72_head1 b1 fs  ∧ I m ) ) : f72_loop1 R b1 fs  :=
  loop_intro (fun n t => t = f72_head1 b1 fs  ∧ I n ) n ⟨rfl, h0⟩ (fun n t ht => by obtain ⟨rfl, hI⟩ := ht; exact Eq.mpr (f72_eq1 R b1 fs (fun t => ∃ m, m < n ∧ t = f72_head1 b1 fs  ∧ I m ) ) (h n  hI))
theorem f72_run (R : AV → List Ob → Prop) (b1 : Int) (fs : List TF.den) : fnB tab eZz2 Try.f72 (bodyOf Try.f72) [.row 0, .int .i64 0, .int .i64 b1, .fn (.func 45) .nl .nl] [.row 78 TF fs] R = (f72_loop1 R b1 fs) := by kernel_rfl
theorem ok72 : ConOk2 Try.prog (72, con72) := by
  intro args obs t h hp
  change con72 args obs = some t at h
  unfold con72 at h
  split at h
  · rename_i b1 fs
    change List TF.den at fs
    cases h
    refine fn_ok2 envZz2 tab_ok mixed Try.func72 (by kernel_rfl) (by kernel_rfl) ?_
    rw [f72_run]
    try dsimp only
    have h0 := hp (b1 ≤ 1) (by simp)
    refine f72_rule1 _ b1 fs (fun _ => True) 0 trivial ?_
    rintro n _
    unfold f72_rhs1
    exact dec_no (by omega) ⟨rfl, rfl⟩
  · cases h
def consZz3 : Cons := consZz2
def twosZz3 : Cons2 := (72, con72) :: twosZz2
def pansZz3 : Cons3 := pansZz2
def itersZz3 : Cons4 := itersZz2
abbrev eZz3 : Env := envOf4 consZz3 twosZz3 pansZz3 itersZz3
theorem allconsZz3 : ∀ c ∈ consZz3, ConOk Try.prog c := allconsZz2
theorem alltwosZz3 : ∀ c ∈ twosZz3, ConOk2 Try.prog c := all_cons ok72 alltwosZz2
theorem allpansZz3 : ∀ c ∈ pansZz3, ConOk3 Try.prog c := allpansZz2
theorem allitersZz3 : ∀ c ∈ itersZz3, ConOk4 Try.prog c := allitersZz2
theorem envZz3 : EnvOk Try.prog eZz3 := envOf4_ok _ _ _ _ allconsZz3 alltwosZz3 allpansZz3 allitersZz3
def con62 : List AV → List Ob → Option Tells2
  | [.row 0, .int .i64 0, .int .i64 b1, .int .i64 lim, .fn (.func 45) .nl .nl], [.row 78 (.pair (.int .i64) (.pair (.int .i64) (.int .i64))) fs] => some ⟨[0 ≤ b1, b1 ≤ 1], .tuple .nl, [none], []⟩
  | _, _ => none
def f62_live1 : List Nat := [2, 1, 0, 1, 2, 4, 3, 0, 1, 2, 4, 10, 0, 1, 2, 4, 3, 0, 1, 2, 4, 0, 1, 2, 4, 2, 1, 10, 11, 0, 1, 2, 4, 1, 4, 0, 1, 0, 0, 1, 2, 4, 0, 1, 2, 4, 1, 2, 0, 1, 3, 4, 0, 2, 3, 4]
def f62_head1 (b1 : Int) (lim : Int) (fs : List TF.den)  : St := { slots := [AV.row 0, AV.int IntKind.i64 0, AV.int IntKind.i64 b1, AV.int IntKind.i64 lim, AV.fn (Fn.func 45) AV.nl AV.nl] ++ List.replicate 5 AV.undef ++ [AV.bool true, AV.bool true] ++ List.replicate 136 AV.undef, obs := [Ob.row 78 ((Ty.int IntKind.i64).pair ((Ty.int IntKind.i64).pair (Ty.int IntKind.i64))) fs], n := 1 }
def f62_q1 (R : AV → List Ob → Prop) : Ex → St → Prop := blockA 0 (endA tab Try.f62 R)
def f62_loop1 (R : AV → List Ob → Prop) (b1 : Int) (lim : Int) (fs : List TF.den)  : Prop := loopT f62_live1 (codeA tab eZz3 (subC [1, 1, 0, 0] (bodyOf Try.f62)) f62_live1) (f62_head1 b1 lim fs) (f62_q1 R)
def f62_rhs1 (R : AV → List Ob → Prop) (b1 : Int) (lim : Int) (fs : List TF.den) (J : St → Prop)  : Prop := bif decide (IntKind.i64.wrap (b1 - 0) ≤ 12) then b1 ≤ 1 ∧ R AV.nl.tuple [Ob.row 78 ((Ty.int IntKind.i64).pair ((Ty.int IntKind.i64).pair (Ty.int IntKind.i64))) fs] else bif lim == 0 then False else False
theorem f62_eq1 (R : AV → List Ob → Prop) (b1 : Int) (lim : Int) (fs : List TF.den) (J : St → Prop)  : codeA tab eZz3 (subC [1, 1, 0, 0] (bodyOf Try.f62)) f62_live1 (f62_head1 b1 lim fs) (thenA (fun s => J (St.tidy f62_live1 s)) (f62_q1 R)) = f62_rhs1 R b1 lim fs J  := by kernel_rfl
theorem f62_rule1 (R : AV → List Ob → Prop) (b1 : Int) (lim : Int) (fs : List TF.den) (I : Nat → Prop) (n : Nat)  (h0 : I n ) (h : ∀ n, I n  → f62_rhs1 R b1 lim fs (fun t => ∃ m, m < n ∧ t = f62_head1 b1 lim fs  ∧ I m ) ) : f62_loop1 R b1 lim fs  :=
  loop_intro (fun n t => t = f62_head1 b1 lim fs  ∧ I n ) n ⟨rfl, h0⟩ (fun n t ht => by obtain ⟨rfl, hI⟩ := ht; exact Eq.mpr (f62_eq1 R b1 lim fs (fun t => ∃ m, m < n ∧ t = f62_head1 b1 lim fs  ∧ I m ) ) (h n  hI))
theorem f62_run (R : AV → List Ob → Prop) (b1 lim : Int) (fs : List TF.den) : fnB tab eZz3 Try.f62 (bodyOf Try.f62) [.row 0, .int .i64 0, .int .i64 b1, .int .i64 lim, .fn (.func 45) .nl .nl] [.row 78 TF fs] R = (f62_loop1 R b1 lim fs) := by kernel_rfl
theorem ok62 : ConOk2 Try.prog (62, con62) := by
  intro args obs t h hp
  change con62 args obs = some t at h
  unfold con62 at h
  split at h
  · rename_i b1 lim fs
    change List TF.den at fs
    cases h
    refine fn_ok2 envZz3 tab_ok mixed Try.func62 (by kernel_rfl) (by kernel_rfl) ?_
    rw [f62_run]
    try dsimp only
    have h0 := hp (0 ≤ b1) (by simp)
    have h1 := hp (b1 ≤ 1) (by simp)
    refine f62_rule1 _ b1 lim fs (fun _ => True) 0 trivial ?_
    rintro n _
    unfold f62_rhs1
    have hw : IntKind.wrap .i64 (b1 - 0) = b1 := by rw [wrap_id _ (by omega)]; omega
    rw [hw]
    refine dec_split (fun _ => ⟨h1, rfl, rfl⟩) (fun h => ?_)
    omega
  · cases h
def consZz4 : Cons := consZz3
def twosZz4 : Cons2 := (62, con62) :: twosZz3
def pansZz4 : Cons3 := pansZz3
def itersZz4 : Cons4 := itersZz3
abbrev eZz4 : Env := envOf4 consZz4 twosZz4 pansZz4 itersZz4
theorem allconsZz4 : ∀ c ∈ consZz4, ConOk Try.prog c := allconsZz3
theorem alltwosZz4 : ∀ c ∈ twosZz4, ConOk2 Try.prog c := all_cons ok62 alltwosZz3
theorem allpansZz4 : ∀ c ∈ pansZz4, ConOk3 Try.prog c := allpansZz3
theorem allitersZz4 : ∀ c ∈ itersZz4, ConOk4 Try.prog c := allitersZz3
theorem envZz4 : EnvOk Try.prog eZz4 := envOf4_ok _ _ _ _ allconsZz4 alltwosZz4 allpansZz4 allitersZz4
def con44 : List AV → List Ob → Option Tells2
  | [.row 0, .fn (.func 45) .nl .nl], [.row 78 (.pair (.int .i64) (.pair (.int .i64) (.int .i64))) fs] => some ⟨[fs.length ≤ 1], .tuple .nl, [none], []⟩
  | _, _ => none
theorem f44_run (R : AV → List Ob → Prop) (fs : List TF.den) : fnB tab eZz4 Try.f44 (bodyOf Try.f44) [.row 0, .fn (.func 45) .nl .nl] [.row 78 TF fs] R = (0 ≤ IntKind.u64.wrap (↑fs.length : Int) ∧ IntKind.u64.wrap (↑fs.length : Int) < 256 ∧ 0 ≤ (↑fs.length : Int) ∧ (↑fs.length : Int) ≤ 1 ∧ R AV.nl.tuple [Ob.row 78 ((Ty.int IntKind.i64).pair ((Ty.int IntKind.i64).pair (Ty.int IntKind.i64))) fs]) := by kernel_rfl
theorem ok44 : ConOk2 Try.prog (44, con44) := by
  intro args obs t h hp
  change con44 args obs = some t at h
  unfold con44 at h
  split at h
  · rename_i fs
    change List TF.den at fs
    cases h
    refine fn_ok2 envZz4 tab_ok mixed Try.func44 (by kernel_rfl) (by kernel_rfl) ?_
    rw [f44_run]
    try dsimp only
    have h0 := hp (fs.length ≤ 1) (by simp)
    have hw : IntKind.wrap .u64 (fs.length : Int) = fs.length := wrap_u64 _ (by omega) (by omega)
    rw [hw]
    exact ⟨by omega, by omega, by omega, by omega, rfl, rfl⟩
  · cases h
end
end Go.Proofs.Ytkpjcmiijlpcaaa.W
