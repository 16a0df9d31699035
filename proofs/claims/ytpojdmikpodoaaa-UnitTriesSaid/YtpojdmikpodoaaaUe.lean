/- What is reckoned within a Try. -/
import Derived.Test.YtpojdmikpodoaaaWa
import Derived.Test.YtpojdmikpodoaaaUc
import Derived.Test.YtpojdmikpodoaaaUt
import Derived.Test.YtpojdmikpodoaaaAwZ
import Derived.KernelRfl
namespace Go.Proofs.Ytpojdmikpodoaaa.W
open Go Go.Proofs Go.Proofs.Ytpojdmikpodoaaa.Aw
def consV0 : Cons := (25, con25) :: consU3
def twosV0 : Cons2 := twosU3
def pansV0 : Cons3 := (50, con50) :: (52, con52) :: pansU3
def itersV0 : Cons4 := itersU3
abbrev eV0 : Env := envOf4 consV0 twosV0 pansV0 itersV0
theorem allconsV0 : ∀ c ∈ consV0, ConOk Try.prog c := all_cons ok25 allconsU3
theorem alltwosV0 : ∀ c ∈ twosV0, ConOk2 Try.prog c := alltwosU3
theorem allpansV0 : ∀ c ∈ pansV0, ConOk3 Try.prog c := all_cons ok50 (all_cons ok52 allpansU3)
theorem allitersV0 : ∀ c ∈ itersV0, ConOk4 Try.prog c := allitersU3
theorem envV0 : EnvOk Try.prog eV0 := envOf4_ok _ _ _ _ allconsV0 alltwosV0 allpansV0 allitersV0
def step (s : Bool) (t x : Int) : Option Int := bif s then subO t x else addO t x
def tries (s : Bool) (t n : Int) : List Int → Int × Int × Bool
  | [] => (t, n, true)
  | x :: xs => match step s t x with
    | none => (t, n, false)
    | some u => tries s u (n + 1) xs
theorem tries_next (s : Bool) (t n : Int) (xs : List Int) (k : Nat) (h : k < xs.length) : tries s t n (xs.drop k) = match step s t xs[k] with
    | none => (t, n, false)
    | some u => tries s u (n + 1) (xs.drop (k + 1)) := by
  rw [List.drop_eq_getElem_cons h]
  rfl
theorem tries_end (s : Bool) (t n : Int) (xs : List Int) (k : Nat) (h : ¬ k < xs.length) : tries s t n (xs.drop k) = (t, n, true) := by
  rw [List.drop_of_length_le (by omega)]
  rfl
def con51 : List AV → List Ob → Option TellsP
  | [.ptr 0 0, .ptr 1 0, .ptr 2 0, .ptr 3 0, .ptr 4 0], [.cells 22 [.list 3 (.int .i64) xs], .cells 4 [.bool s], .cells 3 [.int .i64 0], .cells 3 [.int .i64 0], .cells 4 [.bool false]] => some ⟨[xs.length ≤ 60], !(tries s 0 0 xs).2.2, over, .tuple .nl, [none, none, some (.cells 3 [.int .i64 ((tries s 0 0 xs).1)]), some (.cells 3 [.int .i64 ((tries s 0 0 xs).2.1)]), some (.cells 4 [.bool (tries s 0 0 xs).2.2])], []⟩
  | _, _ => none
def f51_live1 : List Nat := [nat_lit 9, nat_lit 8, nat_lit 7, nat_lit 9, nat_lit 1, nat_lit 2, nat_lit 2, nat_lit 2, nat_lit 2, nat_lit 3, nat_lit 3, nat_lit 9, nat_lit 4]
def f51_head1 (xs : List Int) (s : Bool) (s9 : Int) (o2_0 : Int) (o3_0 : Int) : St := { slots := [AV.undef, AV.ptr (nat_lit 1) (nat_lit 0), AV.ptr (nat_lit 2) (nat_lit 0), AV.ptr (nat_lit 3) (nat_lit 0), AV.ptr (nat_lit 4) (nat_lit 0), AV.undef, AV.undef, AV.list (nat_lit 3) (Ty.int IntKind.i64) xs, AV.int IntKind.i64 (↑xs.length : Int), AV.int IntKind.i64 s9] ++ List.replicate (13 : Nat) AV.undef, obs := [Ob.cells (nat_lit 22) [AV.list (nat_lit 3) (Ty.int IntKind.i64) xs], Ob.cells (nat_lit 4) [AV.bool s], Ob.cells (nat_lit 3) [AV.int IntKind.i64 o2_0], Ob.cells (nat_lit 3) [AV.int IntKind.i64 o3_0], Ob.cells (nat_lit 4) [AV.bool false]], n := nat_lit 5 }
def f51_q1 (R : AV → List Ob → Prop) (RP : Value → List Ob → Prop) : Ex → St → Prop := blockA (nat_lit 0) (seqQ tab eV0 (subC [(1 : Nat)] (bodyOf Try.f51)) [] (endP tab Try.f51 R RP))
def f51_loop1 (R : AV → List Ob → Prop) (RP : Value → List Ob → Prop) (xs : List Int) (s : Bool) (s9 : Int) (o2_0 : Int) (o3_0 : Int) : Prop := loopT f51_live1 (codeA tab eV0 (subC [(0 : Nat), (1 : Nat), (0 : Nat), (0 : Nat)] (bodyOf Try.f51)) f51_live1) (f51_head1 xs s s9 o2_0 o3_0) (f51_q1 R RP)
def f51_rhs1 (R : AV → List Ob → Prop) (RP : Value → List Ob → Prop) (xs : List Int) (s : Bool) (J : St → Prop) (s9 : Int) (o2_0 : Int) (o3_0 : Int) : Prop := bif decide (s9 < (↑xs.length : Int)) then (0 : Int) ≤ s9 ∧ s9 < (↑xs.length : Int) ∧ bif s then bif !(subO o2_0 (xs.getD s9.toNat (0 : Int))).isSome then RP (Value.iface (nat_lit 74) (Value.agg #[])) [Ob.cells (nat_lit 22) [AV.list (nat_lit 3) (Ty.int IntKind.i64) xs], Ob.cells (nat_lit 4) [AV.bool s], Ob.cells (nat_lit 3) [AV.int IntKind.i64 o2_0], Ob.cells (nat_lit 3) [AV.int IntKind.i64 o3_0], Ob.cells (nat_lit 4) [AV.bool false]] else J (f51_head1 xs s (IntKind.i64.wrap (s9 + (1 : Int))) ((subO o2_0 (xs.getD s9.toNat (0 : Int))).getD (0 : Int)) (IntKind.i64.wrap (o3_0 + (1 : Int)))) else bif !(addO o2_0 (xs.getD s9.toNat (0 : Int))).isSome then RP (Value.iface (nat_lit 74) (Value.agg #[])) [Ob.cells (nat_lit 22) [AV.list (nat_lit 3) (Ty.int IntKind.i64) xs], Ob.cells (nat_lit 4) [AV.bool s], Ob.cells (nat_lit 3) [AV.int IntKind.i64 o2_0], Ob.cells (nat_lit 3) [AV.int IntKind.i64 o3_0], Ob.cells (nat_lit 4) [AV.bool false]] else J (f51_head1 xs s (IntKind.i64.wrap (s9 + (1 : Int))) ((addO o2_0 (xs.getD s9.toNat (0 : Int))).getD (0 : Int)) (IntKind.i64.wrap (o3_0 + (1 : Int)))) else R AV.nl.tuple [Ob.cells (nat_lit 22) [AV.list (nat_lit 3) (Ty.int IntKind.i64) xs], Ob.cells (nat_lit 4) [AV.bool s], Ob.cells (nat_lit 3) [AV.int IntKind.i64 o2_0], Ob.cells (nat_lit 3) [AV.int IntKind.i64 o3_0], Ob.cells (nat_lit 4) [AV.bool true]]
theorem f51_eq1 (R : AV → List Ob → Prop) (RP : Value → List Ob → Prop) (xs : List Int) (s : Bool) (J : St → Prop) (s9 : Int) (o2_0 : Int) (o3_0 : Int) : codeA tab eV0 (subC [(0 : Nat), (1 : Nat), (0 : Nat), (0 : Nat)] (bodyOf Try.f51)) f51_live1 (f51_head1 xs s s9 o2_0 o3_0) (thenA (fun s => J (St.tidy f51_live1 s)) (f51_q1 R RP)) = f51_rhs1 R RP xs s J s9 o2_0 o3_0 := by kernel_rfl
theorem f51_rule1 (R : AV → List Ob → Prop) (RP : Value → List Ob → Prop) (xs : List Int) (s : Bool) (I : Nat → (Int) → (Int) → (Int) → Prop) (n : Nat) (s9 : Int) (o2_0 : Int) (o3_0 : Int) (h0 : I n s9 o2_0 o3_0) (h : ∀ n, ∀ (s9 : Int) (o2_0 : Int) (o3_0 : Int), I n s9 o2_0 o3_0 → f51_rhs1 R RP xs s (fun t => ∃ m, m < n ∧ ∃ (s9 : Int) (o2_0 : Int) (o3_0 : Int), t = f51_head1 xs s s9 o2_0 o3_0 ∧ I m s9 o2_0 o3_0) s9 o2_0 o3_0) : f51_loop1 R RP xs s s9 o2_0 o3_0 :=
  loop_intro (fun n t => ∃ (s9 : Int) (o2_0 : Int) (o3_0 : Int), t = f51_head1 xs s s9 o2_0 o3_0 ∧ I n s9 o2_0 o3_0) n ⟨s9, o2_0, o3_0, rfl, h0⟩ (fun n t ht => by obtain ⟨s9, o2_0, o3_0, rfl, hI⟩ := ht; exact Eq.mpr (f51_eq1 R RP xs s (fun t => ∃ m, m < n ∧ ∃ (s9 : Int) (o2_0 : Int) (o3_0 : Int), t = f51_head1 xs s s9 o2_0 o3_0 ∧ I m s9 o2_0 o3_0) s9 o2_0 o3_0) (h n s9 o2_0 o3_0 hI))
theorem f51_run (R : AV → List Ob → Prop) (RP : Value → List Ob → Prop) (xs : List Int) (s : Bool) : fnP tab eV0 Try.f51 (bodyOf Try.f51) [.ptr 0 0, .ptr 1 0, .ptr 2 0, .ptr 3 0, .ptr 4 0] [.cells 22 [.list 3 (.int .i64) xs], .cells 4 [.bool s], .cells 3 [.int .i64 0], .cells 3 [.int .i64 0], .cells 4 [.bool false]] R RP = (f51_loop1 R RP xs s (0 : Int) (0 : Int) (0 : Int)) := by kernel_rfl
theorem ok51 : ConOk3 Try.prog (51, con51) := by
  intro args obs t h hp
  simp only [con51] at h
  split at h
  · rename_i xs s
    change List Int at xs
    cases h
    refine fn_okP envV0 tab_ok mixed Try.func51 (by kernel_rfl) (by kernel_rfl) ?_
    rw [f51_run]
    dsimp only
    have hm := hp (xs.length ≤ 60) (by simp)
    refine f51_rule1 _ _ xs s (fun n i t m => ∃ k : Nat, k ≤ xs.length ∧ n = xs.length - k ∧ i = k ∧ m = k ∧ tries s 0 0 xs = tries s t k (xs.drop k)) xs.length 0 0 0 ⟨0, by omega, by simp, rfl, rfl, rfl⟩ ?_
    rintro n i t m ⟨k, hk, rfl, rfl, rfl, hT⟩
    unfold f51_rhs1
    refine dec_split (fun hlt => ⟨by omega, hlt, ?_⟩) (fun hlt => ?_)
    · have hlt' : k < xs.length := by omega
      rw [tries_next s t k xs k hlt'] at hT
      rw [getD_nat xs (0 : Int) k hlt', wrap_next k _ hlt' (by simp only [maxLen]; omega)]
      cases s with
      | true =>
        cases hs : subO t xs[k] with
        | none =>
          simp only [step, hs, cond_true] at hT
          exact ⟨by rw [hT]; rfl, rfl, by rw [hT]; rfl⟩
        | some u =>
          simp only [step, hs, cond_true] at hT
          exact ⟨xs.length - (k + 1), by omega, _, _, _, rfl, k + 1, by omega, rfl, rfl, rfl, hT⟩
      | false =>
        cases hs : addO t xs[k] with
        | none =>
          simp only [step, hs, cond_false] at hT
          exact ⟨by rw [hT]; rfl, rfl, by rw [hT]; rfl⟩
        | some u =>
          simp only [step, hs, cond_false] at hT
          exact ⟨xs.length - (k + 1), by omega, _, _, _, rfl, k + 1, by omega, rfl, rfl, rfl, hT⟩
    · rw [tries_end s t k xs k (by omega)] at hT
      exact ⟨by rw [hT]; rfl, rfl, by rw [hT]; rfl⟩
  · cases h
def consV1 : Cons := consV0
def twosV1 : Cons2 := twosV0
def pansV1 : Cons3 := (51, con51) :: pansV0
def itersV1 : Cons4 := itersV0
abbrev eV1 : Env := envOf4 consV1 twosV1 pansV1 itersV1
theorem allconsV1 : ∀ c ∈ consV1, ConOk Try.prog c := allconsV0
theorem alltwosV1 : ∀ c ∈ twosV1, ConOk2 Try.prog c := alltwosV0
theorem allpansV1 : ∀ c ∈ pansV1, ConOk3 Try.prog c := all_cons ok51 allpansV0
theorem allitersV1 : ∀ c ∈ itersV1, ConOk4 Try.prog c := allitersV0
theorem envV1 : EnvOk Try.prog eV1 := envOf4_ok _ _ _ _ allconsV1 alltwosV1 allpansV1 allitersV1
def con47 : List AV → List Ob → Option Tells2 := tryCon pansV1
theorem ok47 : ConOk2 Try.prog (47, con47) := try_con _ allpansV1
def consV2 : Cons := consV1
def twosV2 : Cons2 := (47, con47) :: twosV1
def pansV2 : Cons3 := pansV1
def itersV2 : Cons4 := itersV1
abbrev eV2 : Env := envOf4 consV2 twosV2 pansV2 itersV2
theorem allconsV2 : ∀ c ∈ consV2, ConOk Try.prog c := allconsV1
theorem alltwosV2 : ∀ c ∈ twosV2, ConOk2 Try.prog c := all_cons ok47 alltwosV1
theorem allpansV2 : ∀ c ∈ pansV2, ConOk3 Try.prog c := allpansV1
theorem allitersV2 : ∀ c ∈ itersV2, ConOk4 Try.prog c := allitersV1
theorem envV2 : EnvOk Try.prog eV2 := envOf4_ok _ _ _ _ allconsV2 alltwosV2 allpansV2 allitersV2
def f14_live1 : List Nat := [nat_lit 28, nat_lit 27, nat_lit 26, nat_lit 28, nat_lit 9, nat_lit 3, nat_lit 9, nat_lit 10, nat_lit 28, nat_lit 10, nat_lit 2, nat_lit 5, nat_lit 9, nat_lit 6, nat_lit 10, nat_lit 7, nat_lit 8, nat_lit 8, nat_lit 4]
def f14_head1 (xs : List Int) (s : Bool) (s9 : Int) (s10 : Int) (s28 : Int) : St := { slots := [AV.undef, AV.undef, AV.ptr (nat_lit 0) (nat_lit 0), AV.ptr (nat_lit 1) (nat_lit 0), AV.bool false, AV.ptr (nat_lit 2) (nat_lit 0), AV.ptr (nat_lit 3) (nat_lit 0), AV.ptr (nat_lit 4) (nat_lit 0), AV.int IntKind.i64 (bif !(tries s (0 : Int) (0 : Int) xs).snd.snd then (13 : Int) else (0 : Int)), AV.int IntKind.i64 s9, AV.int IntKind.i64 s10] ++ List.replicate (15 : Nat) AV.undef ++ [AV.list (nat_lit 3) (Ty.int IntKind.i64) xs, AV.int IntKind.i64 (↑xs.length : Int), AV.int IntKind.i64 s28] ++ List.replicate (52 : Nat) AV.undef, obs := [Ob.cells (nat_lit 22) [AV.list (nat_lit 3) (Ty.int IntKind.i64) xs], Ob.cells (nat_lit 4) [AV.bool s], Ob.cells (nat_lit 3) [AV.int IntKind.i64 (tries s (0 : Int) (0 : Int) xs).fst], Ob.cells (nat_lit 3) [AV.int IntKind.i64 (tries s (0 : Int) (0 : Int) xs).snd.fst], Ob.cells (nat_lit 4) [AV.bool (tries s (0 : Int) (0 : Int) xs).snd.snd]] }
def f14_q1 (R : AV → List Ob → Prop) : Ex → St → Prop := blockA (nat_lit 0) (seqQ tab eV2 (subC [(1 : Nat), (1 : Nat), (1 : Nat), (1 : Nat), (1 : Nat), (1 : Nat)] (bodyOf Try.f14)) [nat_lit 4] (endA tab Try.f14 R))
def f14_loop1 (R : AV → List Ob → Prop) (xs : List Int) (s : Bool) (s9 : Int) (s10 : Int) (s28 : Int) : Prop := loopT f14_live1 (codeA tab eV2 (subC [(1 : Nat), (1 : Nat), (1 : Nat), (1 : Nat), (1 : Nat), (0 : Nat), (1 : Nat), (0 : Nat), (0 : Nat)] (bodyOf Try.f14)) f14_live1) (f14_head1 xs s s9 s10 s28) (f14_q1 R)
def f14_rhs1 (R : AV → List Ob → Prop) (xs : List Int) (s : Bool) (J : St → Prop) (s9 : Int) (s10 : Int) (s28 : Int) : Prop := bif decide (s28 < (↑xs.length : Int)) then (0 : Int) ≤ s28 ∧ s28 < (↑xs.length : Int) ∧ bif s then bif !(subO s9 (xs.getD s28.toNat (0 : Int))).isSome then bif (tries s (0 : Int) (0 : Int) xs).fst == s9 then bif (tries s (0 : Int) (0 : Int) xs).snd.fst == s10 then bif (tries s (0 : Int) (0 : Int) xs).snd.snd == (s10 == (↑xs.length : Int)) then bif ((bif !(tries s (0 : Int) (0 : Int) xs).snd.snd then (13 : Int) else (0 : Int)) == (0 : Int)) == (s10 == (↑xs.length : Int)) then bif !s10 == (↑xs.length : Int) then R (AV.bool ((bif !(tries s (0 : Int) (0 : Int) xs).snd.snd then (13 : Int) else (0 : Int)) == (13 : Int))) [] else R (AV.bool true) [] else R (AV.bool false) [] else R (AV.bool false) [] else R (AV.bool false) [] else R (AV.bool false) [] else J (f14_head1 xs s ((subO s9 (xs.getD s28.toNat (0 : Int))).getD (0 : Int)) (IntKind.i64.wrap (s10 + (1 : Int))) (IntKind.i64.wrap (s28 + (1 : Int)))) else bif !(addO s9 (xs.getD s28.toNat (0 : Int))).isSome then bif (tries s (0 : Int) (0 : Int) xs).fst == s9 then bif (tries s (0 : Int) (0 : Int) xs).snd.fst == s10 then bif (tries s (0 : Int) (0 : Int) xs).snd.snd == (s10 == (↑xs.length : Int)) then bif ((bif !(tries s (0 : Int) (0 : Int) xs).snd.snd then (13 : Int) else (0 : Int)) == (0 : Int)) == (s10 == (↑xs.length : Int)) then bif !s10 == (↑xs.length : Int) then R (AV.bool ((bif !(tries s (0 : Int) (0 : Int) xs).snd.snd then (13 : Int) else (0 : Int)) == (13 : Int))) [] else R (AV.bool true) [] else R (AV.bool false) [] else R (AV.bool false) [] else R (AV.bool false) [] else R (AV.bool false) [] else J (f14_head1 xs s ((addO s9 (xs.getD s28.toNat (0 : Int))).getD (0 : Int)) (IntKind.i64.wrap (s10 + (1 : Int))) (IntKind.i64.wrap (s28 + (1 : Int)))) else bif (tries s (0 : Int) (0 : Int) xs).fst == s9 then bif (tries s (0 : Int) (0 : Int) xs).snd.fst == s10 then bif (tries s (0 : Int) (0 : Int) xs).snd.snd == (s10 == (↑xs.length : Int)) then bif ((bif !(tries s (0 : Int) (0 : Int) xs).snd.snd then (13 : Int) else (0 : Int)) == (0 : Int)) == (s10 == (↑xs.length : Int)) then bif !s10 == (↑xs.length : Int) then R (AV.bool ((bif !(tries s (0 : Int) (0 : Int) xs).snd.snd then (13 : Int) else (0 : Int)) == (13 : Int))) [] else R (AV.bool true) [] else R (AV.bool false) [] else R (AV.bool false) [] else R (AV.bool false) [] else R (AV.bool false) []
theorem f14_eq1 (R : AV → List Ob → Prop) (xs : List Int) (s : Bool) (J : St → Prop) (s9 : Int) (s10 : Int) (s28 : Int) : codeA tab eV2 (subC [(1 : Nat), (1 : Nat), (1 : Nat), (1 : Nat), (1 : Nat), (0 : Nat), (1 : Nat), (0 : Nat), (0 : Nat)] (bodyOf Try.f14)) f14_live1 (f14_head1 xs s s9 s10 s28) (thenA (fun s => J (St.tidy f14_live1 s)) (f14_q1 R)) = f14_rhs1 R xs s J s9 s10 s28 := by kernel_rfl
theorem f14_rule1 (R : AV → List Ob → Prop) (xs : List Int) (s : Bool) (I : Nat → (Int) → (Int) → (Int) → Prop) (n : Nat) (s9 : Int) (s10 : Int) (s28 : Int) (h0 : I n s9 s10 s28) (h : ∀ n, ∀ (s9 : Int) (s10 : Int) (s28 : Int), I n s9 s10 s28 → f14_rhs1 R xs s (fun t => ∃ m, m < n ∧ ∃ (s9 : Int) (s10 : Int) (s28 : Int), t = f14_head1 xs s s9 s10 s28 ∧ I m s9 s10 s28) s9 s10 s28) : f14_loop1 R xs s s9 s10 s28 :=
  loop_intro (fun n t => ∃ (s9 : Int) (s10 : Int) (s28 : Int), t = f14_head1 xs s s9 s10 s28 ∧ I n s9 s10 s28) n ⟨s9, s10, s28, rfl, h0⟩ (fun n t ht => by obtain ⟨s9, s10, s28, rfl, hI⟩ := ht; exact Eq.mpr (f14_eq1 R xs s (fun t => ∃ m, m < n ∧ ∃ (s9 : Int) (s10 : Int) (s28 : Int), t = f14_head1 xs s s9 s10 s28 ∧ I m s9 s10 s28) s9 s10 s28) (h n s9 s10 s28 hI))
theorem f14_run (R : AV → List Ob → Prop) (xs : List Int) (s : Bool) : fnA tab eV2 Try.f14 (bodyOf Try.f14) [.list 3 (.int .i64) xs, .bool s] R = (bif decide ((↑xs.length : Int) > (60 : Int)) then R (AV.bool true) [] else ((!(tries s (0 : Int) (0 : Int) xs).snd.snd) = true → over = over) ∧ xs.length ≤ nat_lit 60 ∧ f14_loop1 R xs s (0 : Int) (0 : Int) (0 : Int)) := by kernel_rfl
theorem law14 (x : ArgsDen [(false, .list 3 (.int .i64)), (false, .bool)]) (_h : OkArgs [(false, .list 3 (.int .i64)), (false, .bool)] x) : ACalls Try.prog 14 (argsA [(false, .list 3 (.int .i64)), (false, .bool)] x) (.bool true) [] := by
  obtain ⟨xs, s, _⟩ := x
  change List Int at xs
  change Bool at s
  refine fn_ok envV2 tab_ok mixed Try.func14 (by kernel_rfl) (by kernel_rfl) ?_
  change fnA tab eV2 Try.f14 (bodyOf Try.f14) [.list 3 (.int .i64) xs, .bool s] _
  rw [f14_run]
  refine dec_split (fun _ => ⟨rfl, rfl⟩) (fun hle => ⟨fun _ => rfl, (show xs.length ≤ 60 by omega), ?_⟩)
  refine f14_rule1 _ xs s (fun n t m i => ∃ k : Nat, k ≤ xs.length ∧ n = xs.length - k ∧ i = k ∧ m = k ∧ tries s 0 0 xs = tries s t k (xs.drop k)) xs.length 0 0 0 ⟨0, by omega, by simp, rfl, rfl, rfl⟩ ?_
  rintro n t m i ⟨k, hk, rfl, rfl, rfl, hT⟩
  unfold f14_rhs1
  refine dec_split (fun hlt => ⟨by omega, hlt, ?_⟩) (fun hlt => ?_)
  · have hlt' : k < xs.length := by omega
    rw [tries_next s t k xs k hlt'] at hT
    rw [getD_nat xs (0 : Int) k hlt', wrap_next k _ hlt' (by simp only [maxLen]; omega)]
    have hne : ((k : Int) == (xs.length : Int)) = false := by simp; omega
    cases s with
    | true =>
      cases hs : subO t xs[k] with
      | none =>
        simp only [step, hs, cond_true] at hT
        rw [hT]
        simp [hne]
      | some u =>
        simp only [step, hs, cond_true] at hT
        exact ⟨xs.length - (k + 1), by omega, _, _, _, rfl, k + 1, by omega, rfl, rfl, rfl, hT⟩
    | false =>
      cases hs : addO t xs[k] with
      | none =>
        simp only [step, hs, cond_false] at hT
        rw [hT]
        simp [hne]
      | some u =>
        simp only [step, hs, cond_false] at hT
        exact ⟨xs.length - (k + 1), by omega, _, _, _, rfl, k + 1, by omega, rfl, rfl, rfl, hT⟩
  · rw [tries_end s t k xs k (by omega)] at hT
    have he : k = xs.length := by omega
    rw [hT, he]
    simp

end Go.Proofs.Ytpojdmikpodoaaa.W
