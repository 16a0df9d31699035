/- A Try within a Try. -/
import Derived.Test.YtpojdmikpodoaaaWa
import Derived.Test.YtpojdmikpodoaaaUc
import Derived.Test.YtpojdmikpodoaaaUt
import Derived.Test.YtpojdmikpodoaaaAwZ
import Derived.KernelRfl
namespace Go.Proofs.Ytpojdmikpodoaaa.W
open Go Go.Proofs Go.Proofs.Ytpojdmikpodoaaa.Aw
def consN0 : Cons := (25, con25) :: consU3
def twosN0 : Cons2 := twosU3
def pansN0 : Cons3 := (50, con50) :: (52, con52) :: pansU3
def itersN0 : Cons4 := itersU3
abbrev eN0 : Env := envOf4 consN0 twosN0 pansN0 itersN0
theorem allconsN0 : ∀ c ∈ consN0, ConOk Try.prog c := all_cons ok25 allconsU3
theorem alltwosN0 : ∀ c ∈ twosN0, ConOk2 Try.prog c := alltwosU3
theorem allpansN0 : ∀ c ∈ pansN0, ConOk3 Try.prog c := all_cons ok50 (all_cons ok52 allpansU3)
theorem allitersN0 : ∀ c ∈ itersN0, ConOk4 Try.prog c := allitersU3
theorem envN0 : EnvOk Try.prog eN0 := envOf4_ok _ _ _ _ allconsN0 alltwosN0 allpansN0 allitersN0
def con49 : List AV → List Ob → Option TellsP
  | [.ptr 0 0, .ptr 1 0], [.cells 3 [.int .i64 a], .cells 3 [.int .i64 b]] => some ⟨[], !(addO a b).isSome, over, .tuple .nl, [none, none], []⟩
  | _, _ => none
theorem f49_run (R : AV → List Ob → Prop) (RP : Value → List Ob → Prop) (a b : Int) : fnP tab eN0 Try.f49 (bodyOf Try.f49) [.ptr 0 0, .ptr 1 0] [.cells 3 [.int .i64 a], .cells 3 [.int .i64 b]] R RP = (bif !(addO a b).isSome then RP (Value.iface (nat_lit 74) (Value.agg #[])) [Ob.cells (nat_lit 3) [AV.int IntKind.i64 a], Ob.cells (nat_lit 3) [AV.int IntKind.i64 b]] else R AV.nl.tuple [Ob.cells (nat_lit 3) [AV.int IntKind.i64 a], Ob.cells (nat_lit 3) [AV.int IntKind.i64 b]]) := by kernel_rfl
theorem ok49 : ConOk3 Try.prog (49, con49) := by
  intro args obs t h hp
  simp only [con49] at h
  split at h
  · rename_i a b
    cases h
    refine fn_okP envN0 tab_ok mixed Try.func49 (by kernel_rfl) (by kernel_rfl) ?_
    rw [f49_run]
    dsimp only
    cases h : addO a b with
    | none => exact ⟨rfl, rfl, rfl⟩
    | some v => exact ⟨rfl, rfl, rfl⟩
  · cases h
def consN1 : Cons := consN0
def twosN1 : Cons2 := twosN0
def pansN1 : Cons3 := (49, con49) :: pansN0
def itersN1 : Cons4 := itersN0
abbrev eN1 : Env := envOf4 consN1 twosN1 pansN1 itersN1
theorem allconsN1 : ∀ c ∈ consN1, ConOk Try.prog c := allconsN0
theorem alltwosN1 : ∀ c ∈ twosN1, ConOk2 Try.prog c := alltwosN0
theorem allpansN1 : ∀ c ∈ pansN1, ConOk3 Try.prog c := all_cons ok49 allpansN0
theorem allitersN1 : ∀ c ∈ itersN1, ConOk4 Try.prog c := allitersN0
theorem envN1 : EnvOk Try.prog eN1 := envOf4_ok _ _ _ _ allconsN1 alltwosN1 allpansN1 allitersN1
def con47 : List AV → List Ob → Option Tells2 := tryCon pansN1
theorem ok47 : ConOk2 Try.prog (47, con47) := try_con _ allpansN1
def consN2 : Cons := consN1
def twosN2 : Cons2 := (47, con47) :: twosN1
def pansN2 : Cons3 := pansN1
def itersN2 : Cons4 := itersN1
abbrev eN2 : Env := envOf4 consN2 twosN2 pansN2 itersN2
theorem allconsN2 : ∀ c ∈ consN2, ConOk Try.prog c := allconsN1
theorem alltwosN2 : ∀ c ∈ twosN2, ConOk2 Try.prog c := all_cons ok47 alltwosN1
theorem allpansN2 : ∀ c ∈ pansN2, ConOk3 Try.prog c := allpansN1
theorem allitersN2 : ∀ c ∈ itersN2, ConOk4 Try.prog c := allitersN1
theorem envN2 : EnvOk Try.prog eN2 := envOf4_ok _ _ _ _ allconsN2 alltwosN2 allpansN2 allitersN2
def con48 : List AV → List Ob → Option TellsP
  | [.ptr 0 0, .ptr 1 0, .ptr 2 0, .ptr 3 0, .ptr 4 0], [.cells 3 [.int .i64 a], .cells 3 [.int .i64 b], .cells 63 [.int .i64 i], .cells 3 [.int .i64 c], .cells 3 [.int .i64 d]] => some ⟨[], !(addO c 0).isSome, over, .tuple .nl, [none, none, some (.cells 63 [.int .i64 (bif (addO a b).isSome then 0 else 13)]), none, some (.cells 3 [.int .i64 ((addO c 0).getD d)])], []⟩
  | _, _ => none
theorem f48_run (R : AV → List Ob → Prop) (RP : Value → List Ob → Prop) (a b i c d : Int) : fnP tab eN2 Try.f48 (bodyOf Try.f48) [.ptr 0 0, .ptr 1 0, .ptr 2 0, .ptr 3 0, .ptr 4 0] [.cells 3 [.int .i64 a], .cells 3 [.int .i64 b], .cells 63 [.int .i64 i], .cells 3 [.int .i64 c], .cells 3 [.int .i64 d]] R RP = (((!(addO a b).isSome) = true → over = over) ∧ bif !(addO c (0 : Int)).isSome then RP (Value.iface (nat_lit 74) (Value.agg #[])) [Ob.cells (nat_lit 3) [AV.int IntKind.i64 a], Ob.cells (nat_lit 3) [AV.int IntKind.i64 b], Ob.cells (nat_lit 63) [AV.int IntKind.i64 (bif !(addO a b).isSome then (13 : Int) else (0 : Int))], Ob.cells (nat_lit 3) [AV.int IntKind.i64 c], Ob.cells (nat_lit 3) [AV.int IntKind.i64 d]] else R AV.nl.tuple [Ob.cells (nat_lit 3) [AV.int IntKind.i64 a], Ob.cells (nat_lit 3) [AV.int IntKind.i64 b], Ob.cells (nat_lit 63) [AV.int IntKind.i64 (bif !(addO a b).isSome then (13 : Int) else (0 : Int))], Ob.cells (nat_lit 3) [AV.int IntKind.i64 c], Ob.cells (nat_lit 3) [AV.int IntKind.i64 ((addO c (0 : Int)).getD (0 : Int))]]) := by kernel_rfl
theorem ok48 : ConOk3 Try.prog (48, con48) := by
  intro args obs t h hp
  simp only [con48] at h
  split at h
  · rename_i a b i c d
    cases h
    refine fn_okP envN2 tab_ok mixed Try.func48 (by kernel_rfl) (by kernel_rfl) ?_
    rw [f48_run]
    dsimp only
    cases h : addO a b <;> cases h' : addO c 0 <;> exact ⟨fun _ => rfl, rfl, rfl, rfl⟩
  · cases h
def consN3 : Cons := consN2
def twosN3 : Cons2 := twosN2
def pansN3 : Cons3 := (48, con48) :: pansN2
def itersN3 : Cons4 := itersN2
abbrev eN3 : Env := envOf4 consN3 twosN3 pansN3 itersN3
theorem allconsN3 : ∀ c ∈ consN3, ConOk Try.prog c := allconsN2
theorem alltwosN3 : ∀ c ∈ twosN3, ConOk2 Try.prog c := alltwosN2
theorem allpansN3 : ∀ c ∈ pansN3, ConOk3 Try.prog c := all_cons ok48 allpansN2
theorem allitersN3 : ∀ c ∈ itersN3, ConOk4 Try.prog c := allitersN2
theorem envN3 : EnvOk Try.prog eN3 := envOf4_ok _ _ _ _ allconsN3 alltwosN3 allpansN3 allitersN3
def con47b : List AV → List Ob → Option Tells2 := tryCon pansN3
theorem ok47b : ConOk2 Try.prog (47, con47b) := try_con _ allpansN3
def consN4 : Cons := consN3
def twosN4 : Cons2 := (47, con47b) :: twosN3
def pansN4 : Cons3 := pansN3
def itersN4 : Cons4 := itersN3
abbrev eN4 : Env := envOf4 consN4 twosN4 pansN4 itersN4
theorem allconsN4 : ∀ c ∈ consN4, ConOk Try.prog c := allconsN3
theorem alltwosN4 : ∀ c ∈ twosN4, ConOk2 Try.prog c := all_cons ok47b alltwosN3
theorem allpansN4 : ∀ c ∈ pansN4, ConOk3 Try.prog c := allpansN3
theorem allitersN4 : ∀ c ∈ itersN4, ConOk4 Try.prog c := allitersN3
theorem envN4 : EnvOk Try.prog eN4 := envOf4_ok _ _ _ _ allconsN4 alltwosN4 allpansN4 allitersN4
theorem f13_run (R : AV → List Ob → Prop) (a b c : Int) : fnA tab eN4 Try.f13 (bodyOf Try.f13) [.int .i64 a, .int .i64 b, .int .i64 c] R = (((!(addO c (0 : Int)).isSome) = true → over = over) ∧ bif ((bif (addO a b).isSome then (0 : Int) else (13 : Int)) == (0 : Int)) == (addO a b).isSome then bif ((bif !(addO c (0 : Int)).isSome then (13 : Int) else (0 : Int)) == (0 : Int)) == (addO c (0 : Int)).isSome then bif !!(addO c (0 : Int)).isSome then bif (addO c (0 : Int)).getD (0 : Int) == (addO c (0 : Int)).getD (0 : Int) then bif !(addO a b).isSome then bif (bif (addO a b).isSome then (0 : Int) else (13 : Int)) == (13 : Int) then bif !(addO c (0 : Int)).isSome then R (AV.bool ((bif !(addO c (0 : Int)).isSome then (13 : Int) else (0 : Int)) == (13 : Int))) [] else R (AV.bool true) [] else R (AV.bool false) [] else bif !(addO c (0 : Int)).isSome then R (AV.bool ((bif !(addO c (0 : Int)).isSome then (13 : Int) else (0 : Int)) == (13 : Int))) [] else R (AV.bool true) [] else R (AV.bool false) [] else bif !(addO a b).isSome then bif (bif (addO a b).isSome then (0 : Int) else (13 : Int)) == (13 : Int) then bif !(addO c (0 : Int)).isSome then R (AV.bool ((bif !(addO c (0 : Int)).isSome then (13 : Int) else (0 : Int)) == (13 : Int))) [] else R (AV.bool true) [] else R (AV.bool false) [] else bif !(addO c (0 : Int)).isSome then R (AV.bool ((bif !(addO c (0 : Int)).isSome then (13 : Int) else (0 : Int)) == (13 : Int))) [] else R (AV.bool true) [] else R (AV.bool false) [] else R (AV.bool false) []) := by kernel_rfl
theorem law13 (x : ArgsDen [(false, .int .i64), (false, .int .i64), (false, .int .i64)]) (_h : OkArgs [(false, .int .i64), (false, .int .i64), (false, .int .i64)] x) : ACalls Try.prog 13 (argsA [(false, .int .i64), (false, .int .i64), (false, .int .i64)] x) (.bool true) [] := by
  obtain ⟨a, b, c, _⟩ := x
  refine fn_ok envN4 tab_ok mixed Try.func13 (by kernel_rfl) (by kernel_rfl) ?_
  change fnA tab eN4 Try.f13 (bodyOf Try.f13) [.int .i64 a, .int .i64 b, .int .i64 c] _
  rw [f13_run]
  cases h : addO a b <;> cases h' : addO c 0 <;> simp

end Go.Proofs.Ytpojdmikpodoaaa.W
