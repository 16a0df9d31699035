/- The functions of chapter 3 and what they come to: their bodies' normal forms, printed by a program of ours and checked by the kernel; their contracts. -/
import Derived.Test.YtpojdmikpodoaaaWa
import Derived.KernelRfl
namespace Go.Proofs.Ytpojdmikpodoaaa.W
open Go Go.Proofs Go.Proofs.Ytpojdmikpodoaaa.Aw
def con23 : List AV → Option Tells
  | [.agg (.cons (.int .i64 a) (.cons (.int .i64 b) .nl)), .agg (.cons (.int .i64 c) (.cons (.int .i64 d) .nl))] => some ⟨[], .agg (.cons (.int .i64 (max a c)) (.cons (.int .i64 (min b d)) .nl)), []⟩
  | _ => none
def con24 : List AV → Option Tells
  | [.agg (.cons (.int .i64 a) (.cons (.int .i64 b) .nl)), .int .i64 c] => some ⟨[], .agg (.cons (.int .i64 (max a c)) (.cons (.int .i64 (min b c)) .nl)), []⟩
  | _ => none
def con20 : List AV → Option Tells
  | [.agg (.cons (.int .i64 a) (.cons (.int .i64 b) .nl))] => some ⟨[], .int .i64 (IntKind.wrap .i64 (a + b)), []⟩
  | _ => none
def con22 : List AV → Option Tells
  | [.agg (.cons (.int .i64 a) (.cons (.int .i64 b) .nl))] => some ⟨[], .bool (decide (b ≤ 0) && decide (a ≥ 0)), []⟩
  | _ => none
def most (xs : List Int) : Int := xs.foldl max 0
def least (xs : List Int) : Int := xs.foldl min 0
def con17 : List AV → Option Tells
  | [.list 3 (.int .i64) xs] => some ⟨[xs.length ≤ maxLen], .agg (.cons (.int .i64 (most xs)) (.cons (.int .i64 (least xs)) .nl)), []⟩
  | _ => none
def small (xs : List Int) : Bool := xs.all fun x => decide (-1152921504606846976 ≤ x) && decide (x ≤ 1152921504606846976)
def con16 : List AV → Option Tells
  | [.list 3 (.int .i64) xs] => some ⟨[xs.length ≤ maxLen], .bool (small xs), []⟩
  | _ => none
def cons1 : Cons := [(23, con23)]
def cons2 : Cons := [(24, con24), (20, con20), (22, con22)]
def cons3 : Cons := [(17, con17), (16, con16), (24, con24), (20, con20), (22, con22), (23, con23)]
def con15 : List AV → Option Tells
  | [] => some ⟨[], .bool true, []⟩
  | _ => none
def cons4 : Cons := (15, con15) :: cons3
theorem f23_run (env : Env) (R : AV → List Ob → Prop) (a b c d : Int) : fnA tab env Try.f23 (bodyOf Try.f23) [.agg (.cons (.int .i64 a) (.cons (.int .i64 b) .nl)), .agg (.cons (.int .i64 c) (.cons (.int .i64 d) .nl))] R = (R ((AV.int IntKind.i64 (if c > a then c else a)).cons ((AV.int IntKind.i64 (if d < b then d else b)).cons AV.nl)).agg []) := by kernel_rfl
theorem f20_run (env : Env) (R : AV → List Ob → Prop) (a b : Int) : fnA tab env Try.f20 (bodyOf Try.f20) [.agg (.cons (.int .i64 a) (.cons (.int .i64 b) .nl))] R = (R (AV.int IntKind.i64 (IntKind.i64.wrap (a + b))) []) := by kernel_rfl
theorem f22_run (env : Env) (R : AV → List Ob → Prop) (a b : Int) : fnA tab env Try.f22 (bodyOf Try.f22) [.agg (.cons (.int .i64 a) (.cons (.int .i64 b) .nl))] R = (bif decide (b ≤ 0) then R (AV.bool (decide (a ≥ 0))) [] else R (AV.bool false) []) := by kernel_rfl
theorem f17_run (env : Env) (R : AV → List Ob → Prop) (xs : List Int) : fnA tab env Try.f17 (bodyOf Try.f17) [.list 3 (.int .i64) xs] R = (loopT [8, 7, 6, 8, 3, 3, 8, 3, 2, 2]
  (codeA tab env (subC [1, 1, 0, 1, 0, 0] (bodyOf Try.f17)) [8, 7, 6, 8, 3, 3, 8, 3, 2, 2])
  {
    slots :=
      [AV.undef, AV.undef, AV.ptr 0 0, AV.ptr 1 0, AV.undef, AV.undef, AV.list 3 (Ty.int IntKind.i64) xs,
        AV.int IntKind.i64 ↑xs.length, AV.int IntKind.i64 0, AV.undef, AV.undef, AV.undef, AV.undef, AV.undef, AV.undef,
        AV.undef, AV.undef],
    obs :=
      [Ob.cells 26 [AV.int IntKind.i64 0, AV.int IntKind.i64 0],
        Ob.cells 26 [AV.int IntKind.i64 0, AV.int IntKind.i64 0]] }
  (blockA 0 (seqQ tab env (subC [1, 1, 1] (bodyOf Try.f17)) [2] (endA tab Try.f17 R)))) := by kernel_rfl
theorem f16_run (env : Env) (R : AV → List Ob → Prop) (xs : List Int) : fnA tab env Try.f16 (bodyOf Try.f16) [.list 3 (.int .i64) xs] R = (loopT [3, 0, 0, 3, 0, 3, 3, 2] (codeA tab env (subC [1, 0, 1, 0, 0] (bodyOf Try.f16)) [3, 0, 0, 3, 0, 3, 3, 2])
  {
    slots :=
      [AV.list 3 (Ty.int IntKind.i64) xs, AV.undef, AV.bool false, AV.int IntKind.i64 0, AV.undef, AV.undef, AV.undef,
        AV.undef, AV.undef, AV.undef, AV.undef, AV.undef, AV.undef, AV.undef, AV.undef, AV.undef, AV.undef, AV.undef,
        AV.undef, AV.undef, AV.undef, AV.undef],
    obs := [] }
  (blockA 0 (seqQ tab env (subC [1, 1] (bodyOf Try.f16)) [2] (endA tab Try.f16 R)))) := by kernel_rfl
theorem f24_run (R : AV → List Ob → Prop) (a b c : Int) : fnA tab (envOf cons1) Try.f24 (bodyOf Try.f24) [.agg (.cons (.int .i64 a) (.cons (.int .i64 b) .nl)), .int .i64 c] R = (R ((AV.int IntKind.i64 (max a c)).cons ((AV.int IntKind.i64 (min b c)).cons AV.nl)).agg []) := by kernel_rfl
theorem f17_body (R : AV → List Ob → Prop) (J : St → Prop) (xs : List Int) (i m l : Int) : codeA tab (envOf cons2) (subC [1, 1, 0, 1, 0, 0] (bodyOf Try.f17)) [8, 7, 6, 8, 3, 3, 8, 3, 2, 2] ⟨[.undef, .undef, .ptr 0 0, .ptr 1 0, .undef, .undef, .list 3 (.int .i64) xs, .int .i64 xs.length, .int .i64 i, .undef, .undef, .undef, .undef, .undef, .undef, .undef, .undef], [.cells 26 [.int .i64 0, .int .i64 0], .cells 26 [.int .i64 m, .int .i64 l]]⟩ (thenA (fun s => J (s.tidy [8, 7, 6, 8, 3, 3, 8, 3, 2, 2])) (blockA 0 (seqQ tab (envOf cons2) (subC [1, 1, 1] (bodyOf Try.f17)) [2] (endA tab Try.f17 R)))) = (bif decide (i < ↑xs.length) then
  0 ≤ i ∧
    i < ↑xs.length ∧
      J
        {
          slots :=
            [AV.undef, AV.undef, AV.ptr 0 0, AV.ptr 1 0, AV.undef, AV.undef, AV.list 3 (Ty.int IntKind.i64) xs,
              AV.int IntKind.i64 ↑xs.length, AV.int IntKind.i64 (IntKind.i64.wrap (i + 1)), AV.undef, AV.undef,
              AV.undef, AV.undef, AV.undef, AV.undef, AV.undef, AV.undef],
          obs :=
            [Ob.cells 26 [AV.int IntKind.i64 0, AV.int IntKind.i64 0],
              Ob.cells 26
                [AV.int IntKind.i64 (max m (xs.getD i.toNat 0)), AV.int IntKind.i64 (min l (xs.getD i.toNat 0))]] }
else R ((AV.int IntKind.i64 m).cons ((AV.int IntKind.i64 l).cons AV.nl)).agg []) := by kernel_rfl
theorem f16_body (R : AV → List Ob → Prop) (J : St → Prop) (xs : List Int) (i : Int) : codeA tab (envOf cons2) (subC [1, 0, 1, 0, 0] (bodyOf Try.f16)) [3, 0, 0, 3, 0, 3, 3, 2] ⟨[.list 3 (.int .i64) xs, .undef, .bool false, .int .i64 i, .undef, .undef, .undef, .undef, .undef, .undef, .undef, .undef, .undef, .undef, .undef, .undef, .undef, .undef, .undef, .undef, .undef, .undef], []⟩ (thenA (fun s => J (s.tidy [3, 0, 0, 3, 0, 3, 3, 2])) (blockA 0 (seqQ tab (envOf cons2) (subC [1, 1] (bodyOf Try.f16)) [2] (endA tab Try.f16 R)))) = (bif decide (i < ↑xs.length) then
  0 ≤ i ∧
    i < ↑xs.length ∧
      bif !decide (xs.getD i.toNat (Ty.int IntKind.i64).zero < -1152921504606846976) then
        0 ≤ i ∧
          i < ↑xs.length ∧
            bif decide (xs.getD i.toNat (Ty.int IntKind.i64).zero > 1152921504606846976) then R (AV.bool false) []
            else
              J
                {
                  slots :=
                    [AV.list 3 (Ty.int IntKind.i64) xs, AV.undef, AV.bool false,
                      AV.int IntKind.i64 (IntKind.i64.wrap (i + 1)), AV.undef, AV.undef, AV.undef, AV.undef, AV.undef,
                      AV.undef, AV.undef, AV.undef, AV.undef, AV.undef, AV.undef, AV.undef, AV.undef, AV.undef,
                      AV.undef, AV.undef, AV.undef, AV.undef],
                  obs := [] }
      else R (AV.bool false) []
else R (AV.bool true) []) := by kernel_rfl
theorem f15_run (R : AV → List Ob → Prop) : fnA tab (envOf cons3) Try.f15 (bodyOf Try.f15) [] R = (3 ≤ 9223372036854775807 ∧ 3 ≤ 9223372036854775807 ∧ R (AV.bool true) []) := by kernel_rfl
theorem ok23 {l : Cons} (hl : EnvOk Try.prog (envOf l)) : ConOk Try.prog (23, con23) := by
  intro args t h hp
  simp only [con23] at h
  split at h
  · rename_i a b c d
    cases h
    refine fn_ok hl tab_ok mixed Try.func23 (by kernel_rfl) (by kernel_rfl) ?_
    rw [f23_run]
    have e1 : (if c > a then c else a) = max a c := by rw [Int.max_def]; split <;> split <;> omega
    have e2 : (if d < b then d else b) = min b d := by rw [Int.min_def]; split <;> split <;> omega
    rw [e1, e2]
    exact ⟨rfl, rfl⟩
  · cases h
theorem ok24 : ConOk Try.prog (24, con24) := by
  intro args t h hp
  simp only [con24] at h
  split at h
  · rename_i a b c
    cases h
    refine fn_ok (env := envOf cons1) (envOk_cons (ok23 envOk_nil) envOk_nil) tab_ok mixed Try.func24 (by kernel_rfl) (by kernel_rfl) ?_
    rw [f24_run]
    exact ⟨rfl, rfl⟩
  · cases h
theorem ok20 {l : Cons} (hl : EnvOk Try.prog (envOf l)) : ConOk Try.prog (20, con20) := by
  intro args t h hp
  simp only [con20] at h
  split at h
  · cases h
    refine fn_ok hl tab_ok mixed Try.func20 (by kernel_rfl) (by kernel_rfl) ?_
    rw [f20_run]
    exact ⟨rfl, rfl⟩
  · cases h
theorem ok22 {l : Cons} (hl : EnvOk Try.prog (envOf l)) : ConOk Try.prog (22, con22) := by
  intro args t h hp
  simp only [con22] at h
  split at h
  · rename_i a b
    cases h
    refine fn_ok hl tab_ok mixed Try.func22 (by kernel_rfl) (by kernel_rfl) ?_
    rw [f22_run]
    cases hb : decide (b ≤ 0) <;> simp
  · cases h
theorem env2_ok : EnvOk Try.prog (envOf cons2) := envOk_cons ok24 (envOk_cons (ok20 envOk_nil) (envOk_cons (ok22 envOk_nil) envOk_nil))
theorem getD_nat (xs : List Int) (i : Nat) (h : i < xs.length) : xs.getD ((i : Int).toNat) 0 = xs[i] := by
  simp [List.getD, h]
theorem wrap_next (i : Nat) (n : Nat) (h : i < n) (hn : n ≤ maxLen) : IntKind.wrap .i64 ((i : Int) + 1) = ((i + 1 : Nat) : Int) := by
  simp only [maxLen] at hn
  simp [IntKind.wrap, IntKind.signed, IntKind.bits]
  omega
theorem most_next (xs : List Int) (i : Nat) (h : i < xs.length) : most (xs.take (i + 1)) = max (most (xs.take i)) xs[i] := by
  unfold most
  rw [List.take_succ_eq_append_getElem h, List.foldl_append]
  rfl
theorem least_next (xs : List Int) (i : Nat) (h : i < xs.length) : least (xs.take (i + 1)) = min (least (xs.take i)) xs[i] := by
  unfold least
  rw [List.take_succ_eq_append_getElem h, List.foldl_append]
  rfl
def head17 (xs : List Int) (i m l : Int) : St := ⟨[.undef, .undef, .ptr 0 0, .ptr 1 0, .undef, .undef, .list 3 (.int .i64) xs, .int .i64 xs.length, .int .i64 i, .undef, .undef, .undef, .undef, .undef, .undef, .undef, .undef], [.cells 26 [.int .i64 0, .int .i64 0], .cells 26 [.int .i64 m, .int .i64 l]]⟩
def inv17 (xs : List Int) (n : Nat) (s : St) : Prop := ∃ i : Nat, i ≤ xs.length ∧ n = xs.length - i ∧ s = head17 xs i (most (xs.take i)) (least (xs.take i))
theorem ok17 : ConOk Try.prog (17, con17) := by
  intro args t h hp
  simp only [con17] at h
  split at h
  · rename_i xs
    change List Int at xs
    cases h
    refine fn_ok env2_ok tab_ok mixed Try.func17 (by kernel_rfl) (by kernel_rfl) ?_
    rw [f17_run]
    have hp1 := hp (xs.length ≤ maxLen) (by simp)
    refine loop_intro (inv17 xs) xs.length ⟨0, Nat.zero_le _, by simp, ?_⟩ ?_
    · have e1 : most (xs.take 0) = 0 := by simp [most]
      have e2 : least (xs.take 0) = 0 := by simp [least]
      rw [e1, e2]
      rfl
    · rintro n s ⟨i, hi, rfl, rfl⟩
      refine Eq.mpr (f17_body (fun v' news' => v' = _ ∧ news' = _) (fun t => ∃ m, m < xs.length - i ∧ inv17 xs m t) xs i (most (xs.take i)) (least (xs.take i))) ?_
      by_cases hlt : i < xs.length
      · have h1 : decide ((i : Int) < (xs.length : Int)) = true := by simpa using hlt
        rw [h1, cond_true]
        refine ⟨by omega, by omega, xs.length - (i + 1), by omega, i + 1, by omega, rfl, ?_⟩
        rw [getD_nat xs i hlt, wrap_next i _ hlt hp1, most_next xs i hlt, least_next xs i hlt]
        rfl
      · have h1 : decide ((i : Int) < (xs.length : Int)) = false := by simpa using hlt
        rw [h1, cond_false]
        have e : xs.take i = xs := List.take_of_length_le (by omega)
        rw [e]
        exact ⟨rfl, rfl⟩
  · cases h
theorem small_next (xs : List Int) (i : Nat) (h : i < xs.length) : small (xs.take (i + 1)) = (small (xs.take i) && (decide (-1152921504606846976 ≤ xs[i]) && decide (xs[i] ≤ 1152921504606846976))) := by
  unfold small
  rw [List.take_succ_eq_append_getElem h, List.all_append]
  simp
theorem small_not (xs : List Int) (i : Nat) (h : i < xs.length) (hh : ¬ (-1152921504606846976 ≤ xs[i] ∧ xs[i] ≤ 1152921504606846976)) : small xs = false := by
  cases hs : small xs with
  | false => rfl
  | true =>
    have := List.all_eq_true.1 hs xs[i] (List.getElem_mem h)
    simp at this
    exact absurd this hh
def head16 (xs : List Int) (i : Int) : St := ⟨[.list 3 (.int .i64) xs, .undef, .bool false, .int .i64 i, .undef, .undef, .undef, .undef, .undef, .undef, .undef, .undef, .undef, .undef, .undef, .undef, .undef, .undef, .undef, .undef, .undef, .undef], []⟩
def inv16 (xs : List Int) (n : Nat) (s : St) : Prop := ∃ i : Nat, i ≤ xs.length ∧ small (xs.take i) = true ∧ n = xs.length - i ∧ s = head16 xs i
theorem ok16 : ConOk Try.prog (16, con16) := by
  intro args t h hp
  simp only [con16] at h
  split at h
  · rename_i xs
    change List Int at xs
    cases h
    refine fn_ok env2_ok tab_ok mixed Try.func16 (by kernel_rfl) (by kernel_rfl) ?_
    rw [f16_run]
    have hp1 := hp (xs.length ≤ maxLen) (by simp)
    refine loop_intro (inv16 xs) xs.length ⟨0, Nat.zero_le _, by simp [small], by simp, ?_⟩ ?_
    · rfl
    · rintro n s ⟨i, hi, hs, rfl, rfl⟩
      refine Eq.mpr (f16_body (fun v' news' => v' = _ ∧ news' = _) (fun t => ∃ m, m < xs.length - i ∧ inv16 xs m t) xs i) ?_
      by_cases hlt : i < xs.length
      · have h1 : decide ((i : Int) < (xs.length : Int)) = true := by simpa using hlt
        have hz : xs.getD (i : Int).toNat (Ty.int IntKind.i64).zero = xs[i] := getD_nat xs i hlt
        rw [h1, cond_true, hz]
        refine ⟨by omega, by omega, ?_⟩
        by_cases c1 : xs[i] < -1152921504606846976
        · have h2 : (!decide (xs[i] < -1152921504606846976)) = false := by simpa using c1
          rw [h2, cond_false, small_not xs i hlt (by omega)]
          exact ⟨rfl, rfl⟩
        · have h2 : (!decide (xs[i] < -1152921504606846976)) = true := by simpa using c1
          rw [h2, cond_true]
          refine ⟨by omega, by omega, ?_⟩
          by_cases c2 : xs[i] > 1152921504606846976
          · have h3 : decide (xs[i] > 1152921504606846976) = true := by simpa using c2
            rw [h3, cond_true, small_not xs i hlt (by omega)]
            exact ⟨rfl, rfl⟩
          · have h3 : decide (xs[i] > 1152921504606846976) = false := by simpa using c2
            rw [h3, cond_false, wrap_next i _ hlt hp1]
            refine ⟨xs.length - (i + 1), by omega, i + 1, by omega, ?_, rfl, rfl⟩
            rw [small_next xs i hlt, hs]
            simp
            omega
      · have h1 : decide ((i : Int) < (xs.length : Int)) = false := by simpa using hlt
        rw [h1, cond_false]
        have e : xs.take i = xs := List.take_of_length_le (by omega)
        rw [e] at hs
        rw [hs]
        exact ⟨rfl, rfl⟩
  · cases h
theorem env3_ok : EnvOk Try.prog (envOf cons3) := envOk_cons ok17 (envOk_cons ok16 (envOk_cons ok24 (envOk_cons (ok20 envOk_nil) (envOk_cons (ok22 envOk_nil) (envOk_cons (ok23 envOk_nil) envOk_nil)))))
theorem ok15 : ConOk Try.prog (15, con15) := by
  intro args t h hp
  simp only [con15] at h
  split at h
  · cases h
    refine fn_ok env3_ok tab_ok mixed Try.func15 (by kernel_rfl) (by kernel_rfl) ?_
    rw [f15_run]
    exact ⟨by omega, by omega, rfl, rfl⟩
  · cases h
theorem env4_ok : EnvOk Try.prog (envOf cons4) := envOk_cons ok15 env3_ok
end Go.Proofs.Ytpojdmikpodoaaa.W
