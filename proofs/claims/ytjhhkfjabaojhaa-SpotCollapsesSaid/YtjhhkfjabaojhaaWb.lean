/- The functions of strut and spot and what they come to: their bodies' normal forms, printed by a program of ours and checked by the kernel; their contracts. -/
import Derived.Test.YtjhhkfjabaojhaaWa
import Derived.KernelRfl
namespace Go.Proofs.Ytjhhkfjabaojhaa.W
open Go Go.Proofs Go.Proofs.Ytjhhkfjabaojhaa.Aw
def con79 : List AV → Option Tells
  | [.agg (.cons (.int .i64 a) (.cons (.int .i64 b) .nl)), .agg (.cons (.int .i64 c) (.cons (.int .i64 d) .nl))] => some ⟨[], .agg (.cons (.int .i64 (max a c)) (.cons (.int .i64 (min b d)) .nl)), []⟩
  | _ => none
def con58 : List AV → Option Tells
  | [.agg (.cons (.int .i64 a) (.cons (.int .i64 b) .nl)), .int .i64 c] => some ⟨[], .agg (.cons (.int .i64 (max a c)) (.cons (.int .i64 (min b c)) .nl)), []⟩
  | _ => none
def con59 : List AV → Option Tells
  | [.agg (.cons (.int .i64 a) (.cons (.int .i64 b) .nl))] => some ⟨[], .int .i64 (IntKind.wrap .i64 (a + b)), []⟩
  | _ => none
def most (xs : List Int) : Int := xs.foldl max 0
def least (xs : List Int) : Int := xs.foldl min 0
def con60 : List AV → Option Tells
  | [.list 3 (.int .i64) xs] => some ⟨[xs.length ≤ maxLen], .agg (.cons (.int .i64 (most xs)) (.cons (.int .i64 (least xs)) .nl)), []⟩
  | _ => none
def consS1 : Cons := [(79, con79)]
def consS2 : Cons := [(58, con58), (59, con59), (60, con60), (79, con79)]
abbrev spot (y m l : Int) (h p : Bool) : AV := .agg (.cons (.int .i64 y) (.cons (.int .i64 m) (.cons (.int .i64 l) (.cons (.bool h) (.cons (.bool p) .nl)))))
def con17 : List AV → Option Tells
  | [.agg (.cons (.int .i64 y) (.cons (.int .i64 m) (.cons (.int .i64 l) (.cons (.bool h) (.cons (.bool p) .nl))))), .int .i64 c] => some ⟨[], spot y (max m c) (min l c) h p, []⟩
  | _ => none
def atOf (y m l : Int) (p : Bool) : Int := bif p then y else IntKind.wrap .i64 (y + IntKind.wrap .i64 (m + l))
def con18 : List AV → Option Tells
  | [.agg (.cons (.int .i64 y) (.cons (.int .i64 m) (.cons (.int .i64 l) (.cons (.bool _) (.cons (.bool p) .nl)))))] => some ⟨[], .int .i64 (atOf y m l p), []⟩
  | _ => none
def con19 : List AV → Option Tells
  | [.int .i64 y, .int .i64 c] => some ⟨[], spot y (max 0 c) (min 0 c) false false, []⟩
  | _ => none
def consS3 : Cons := [(17, con17), (18, con18), (19, con19)] ++ consS2
def con20 : List AV → Option Tells
  | [.int .i64 y, .int .i64 c] => some ⟨[], spot y (max 0 c) (min 0 c) false true, []⟩
  | _ => none
def con21 : List AV → Option Tells
  | [.agg (.cons (.int .i64 y) (.cons (.int .i64 m) (.cons (.int .i64 l) (.cons (.bool _) (.cons (.bool p) .nl))))), .int .i64 c] => some ⟨[], spot (IntKind.wrap .i64 (atOf y m l p + c)) 0 0 false false, []⟩
  | _ => none
def con23 : List AV → Option Tells
  | [.agg (.cons (.int .i64 y) (.cons (.int .i64 m) (.cons (.int .i64 l) (.cons (.bool h) (.cons (.bool p) .nl))))), .int .i64 c] => some ⟨[], spot (bif p then IntKind.wrap .i64 (y - IntKind.wrap .i64 (m + l)) else y) (max m c) (min l c) (p || h) false, []⟩
  | _ => none
def small (xs : List Int) : Bool := xs.all fun x => decide (-1125899906842624 ≤ x) && decide (x ≤ 1125899906842624)
def con16 : List AV → Option Tells
  | [.list 3 (.int .i64) xs] => some ⟨[xs.length ≤ maxLen], .bool (small xs), []⟩
  | _ => none
def con15 : List AV → Option Tells
  | [] => some ⟨[], .bool true, []⟩
  | _ => none
def con22 : List AV → Option Tells
  | [.list 3 (.int .i64) xs] => some ⟨[xs.length ≤ maxLen], .int .i64 (IntKind.wrap .i64 (most xs + least xs)), []⟩
  | _ => none
def consS4 : Cons := [(15, con15), (16, con16), (20, con20), (21, con21), (22, con22), (23, con23)] ++ consS3
def consS2a : Cons := [(58, con58), (59, con59), (79, con79)]
def live60 : List Nat := [8, 7, 6, 8, 3, 3, 8, 3, 2, 2]
def head60 (xs : List Int) (i m l : Int) : St := ⟨[.undef, .undef, .ptr 0 0, .ptr 1 0, .undef, .undef, .list 3 (.int .i64) xs, .int .i64 xs.length, .int .i64 i] ++ List.replicate 8 .undef, [.cells 26 [.int .i64 0, .int .i64 0], .cells 26 [.int .i64 m, .int .i64 l]]⟩
def live61 : List Nat := [4, 0, 0, 4, 3, 0, 4, 4, 3, 2]
def head61 (xs : List Int) (i m : Int) : St := ⟨[.list 3 (.int .i64) xs, .undef, .int .i64 0, .int .i64 m, .int .i64 i] ++ List.replicate 17 .undef, []⟩
def live16 : List Nat := [7, 6, 5, 7, 7, 2]
def head16 (xs : List Int) (i : Int) : St := ⟨[.undef, .undef, .bool false, .undef, .undef, .list 3 (.int .i64) xs, .int .i64 xs.length, .int .i64 i] ++ List.replicate 10 .undef, []⟩
theorem f79_run (env : Env) (R : AV → List Ob → Prop) (a b c d : Int) : fnA tab env Try.f79 (bodyOf Try.f79) [.agg (.cons (.int .i64 a) (.cons (.int .i64 b) .nl)), .agg (.cons (.int .i64 c) (.cons (.int .i64 d) .nl))] R = (R ((AV.int IntKind.i64 (if c > a then c else a)).cons ((AV.int IntKind.i64 (if d < b then d else b)).cons AV.nl)).agg []) := by kernel_rfl
theorem f58_run (R : AV → List Ob → Prop) (a b c : Int) : fnA tab (envOf consS1) Try.f58 (bodyOf Try.f58) [.agg (.cons (.int .i64 a) (.cons (.int .i64 b) .nl)), .int .i64 c] R = (R ((AV.int IntKind.i64 (max a c)).cons ((AV.int IntKind.i64 (min b c)).cons AV.nl)).agg []) := by kernel_rfl
theorem f59_run (env : Env) (R : AV → List Ob → Prop) (a b : Int) : fnA tab env Try.f59 (bodyOf Try.f59) [.agg (.cons (.int .i64 a) (.cons (.int .i64 b) .nl))] R = (R (AV.int IntKind.i64 (IntKind.i64.wrap (a + b))) []) := by kernel_rfl
theorem f60_run (env : Env) (R : AV → List Ob → Prop) (xs : List Int) : fnA tab env Try.f60 (bodyOf Try.f60) [.list 3 (.int .i64) xs] R = (loopT [8, 7, 6, 8, 3, 3, 8, 3, 2, 2]
  (codeA tab env (subC [1, 1, 0, 1, 0, 0] (bodyOf Try.f60)) [8, 7, 6, 8, 3, 3, 8, 3, 2, 2])
  {
    slots :=
      [AV.undef, AV.undef, AV.ptr 0 0, AV.ptr 1 0, AV.undef, AV.undef, AV.list 3 (Ty.int IntKind.i64) xs,
          AV.int IntKind.i64 (↑xs.length : Int), AV.int IntKind.i64 0] ++
        List.replicate 8 AV.undef,
    obs :=
      [Ob.cells 26 [AV.int IntKind.i64 0, AV.int IntKind.i64 0],
        Ob.cells 26 [AV.int IntKind.i64 0, AV.int IntKind.i64 0]] }
  (blockA 0 (seqQ tab env (subC [1, 1, 1] (bodyOf Try.f60)) [2] (endA tab Try.f60 R)))) := by kernel_rfl
theorem f61_run (env : Env) (R : AV → List Ob → Prop) (xs : List Int) : fnA tab env Try.f61 (bodyOf Try.f61) [.list 3 (.int .i64) xs] R = (loopT [4, 0, 0, 4, 3, 0, 4, 4, 3, 2]
  (codeA tab env (subC [1, 1, 0, 1, 0, 0] (bodyOf Try.f61)) [4, 0, 0, 4, 3, 0, 4, 4, 3, 2])
  {
    slots :=
      [AV.list 3 (Ty.int IntKind.i64) xs, AV.undef, AV.int IntKind.i64 0, AV.int IntKind.i64 0, AV.int IntKind.i64 0] ++
        List.replicate 17 AV.undef,
    obs := [] }
  (blockA 0 (seqQ tab env (subC [1, 1, 1] (bodyOf Try.f61)) [2] (endA tab Try.f61 R)))) := by kernel_rfl
theorem f62_run (env : Env) (R : AV → List Ob → Prop) (xs : List Int) : fnA tab env Try.f62 (bodyOf Try.f62) [.list 3 (.int .i64) xs] R = (loopT [4, 0, 0, 4, 3, 0, 4, 4, 3, 2]
  (codeA tab env (subC [1, 1, 0, 1, 0, 0] (bodyOf Try.f62)) [4, 0, 0, 4, 3, 0, 4, 4, 3, 2])
  {
    slots :=
      [AV.list 3 (Ty.int IntKind.i64) xs, AV.undef, AV.int IntKind.i64 0, AV.int IntKind.i64 0, AV.int IntKind.i64 0] ++
        List.replicate 17 AV.undef,
    obs := [] }
  (blockA 0 (seqQ tab env (subC [1, 1, 1] (bodyOf Try.f62)) [2] (endA tab Try.f62 R)))) := by kernel_rfl
theorem f16_run (env : Env) (R : AV → List Ob → Prop) (xs : List Int) : fnA tab env Try.f16 (bodyOf Try.f16) [.list 3 (.int .i64) xs] R = (loopT [7, 6, 5, 7, 7, 2] (codeA tab env (subC [1, 0, 1, 0, 0] (bodyOf Try.f16)) [7, 6, 5, 7, 7, 2])
  {
    slots :=
      [AV.undef, AV.undef, AV.bool false, AV.undef, AV.undef, AV.list 3 (Ty.int IntKind.i64) xs,
          AV.int IntKind.i64 (↑xs.length : Int), AV.int IntKind.i64 0] ++
        List.replicate 10 AV.undef,
    obs := [] }
  (blockA 0 (seqQ tab env (subC [1, 1] (bodyOf Try.f16)) [2] (endA tab Try.f16 R)))) := by kernel_rfl
theorem f17_run (R : AV → List Ob → Prop) (y m l c : Int) (h p : Bool) : fnA tab (envOf consS2) Try.f17 (bodyOf Try.f17) [spot y m l h p, .int .i64 c] R = (R
  ((AV.int IntKind.i64 y).cons
      ((AV.int IntKind.i64 (max m c)).cons
        ((AV.int IntKind.i64 (min l c)).cons ((AV.bool h).cons ((AV.bool p).cons AV.nl))))).agg
  []) := by kernel_rfl
theorem f18_run (R : AV → List Ob → Prop) (y m l : Int) (h p : Bool) : fnA tab (envOf consS2) Try.f18 (bodyOf Try.f18) [spot y m l h p] R = (bif p then R (AV.int IntKind.i64 y) [] else R (AV.int IntKind.i64 (IntKind.i64.wrap (y + IntKind.i64.wrap (m + l)))) []) := by kernel_rfl
theorem f19_run (R : AV → List Ob → Prop) (y c : Int) : fnA tab (envOf consS2) Try.f19 (bodyOf Try.f19) [.int .i64 y, .int .i64 c] R = ([c].length ≤ 9223372036854775807 ∧
  R
    ((AV.int IntKind.i64 y).cons
        ((AV.int IntKind.i64 (most [c])).cons
          ((AV.int IntKind.i64 (least [c])).cons ((AV.bool false).cons ((AV.bool false).cons AV.nl))))).agg
    []) := by kernel_rfl
theorem f20_run (R : AV → List Ob → Prop) (y c : Int) : fnA tab (envOf consS3) Try.f20 (bodyOf Try.f20) [.int .i64 y, .int .i64 c] R = (R
  ((AV.int IntKind.i64 y).cons
      ((AV.int IntKind.i64 (max 0 c)).cons
        ((AV.int IntKind.i64 (min 0 c)).cons ((AV.bool false).cons ((AV.bool true).cons AV.nl))))).agg
  []) := by kernel_rfl
theorem f21_run (R : AV → List Ob → Prop) (y m l c : Int) (h p : Bool) : fnA tab (envOf consS3) Try.f21 (bodyOf Try.f21) [spot y m l h p, .int .i64 c] R = (R
  ((AV.int IntKind.i64 (IntKind.i64.wrap (atOf y m l p + c))).cons
      ((AV.int IntKind.i64 0).cons
        ((AV.int IntKind.i64 0).cons ((AV.bool false).cons ((AV.bool false).cons AV.nl))))).agg
  []) := by kernel_rfl
theorem f23_run (R : AV → List Ob → Prop) (y m l c : Int) (h p : Bool) : fnA tab (envOf consS3) Try.f23 (bodyOf Try.f23) [spot y m l h p, .int .i64 c] R = (bif p then
  R
    ((AV.int IntKind.i64 (IntKind.i64.wrap (y - IntKind.i64.wrap (m + l)))).cons
        ((AV.int IntKind.i64 (max m c)).cons
          ((AV.int IntKind.i64 (min l c)).cons ((AV.bool true).cons ((AV.bool false).cons AV.nl))))).agg
    []
else
  R
    ((AV.int IntKind.i64 y).cons
        ((AV.int IntKind.i64 (max m c)).cons
          ((AV.int IntKind.i64 (min l c)).cons ((AV.bool h).cons ((AV.bool p).cons AV.nl))))).agg
    []) := by kernel_rfl
theorem f15_run (R : AV → List Ob → Prop) : fnA tab (envOf consS3) Try.f15 (bodyOf Try.f15) [] R = (R (AV.bool true) []) := by kernel_rfl
theorem f60_body (R : AV → List Ob → Prop) (J : St → Prop) (xs : List Int) (i m l : Int) : codeA tab (envOf consS2a) (subC [1, 1, 0, 1, 0, 0] (bodyOf Try.f60)) live60 (head60 xs i m l) (thenA (fun s => J (s.tidy live60)) (blockA 0 (seqQ tab (envOf consS2a) (subC [1, 1, 1] (bodyOf Try.f60)) [2] (endA tab Try.f60 R)))) = (bif decide (i < (↑xs.length : Int)) then
  0 ≤ i ∧
    i < (↑xs.length : Int) ∧
      J
        {
          slots :=
            [AV.undef, AV.undef, AV.ptr 0 0, AV.ptr 1 0, AV.undef, AV.undef, AV.list 3 (Ty.int IntKind.i64) xs,
                AV.int IntKind.i64 (↑xs.length : Int), AV.int IntKind.i64 (IntKind.i64.wrap (i + 1))] ++
              List.replicate 8 AV.undef,
          obs :=
            [Ob.cells 26 [AV.int IntKind.i64 0, AV.int IntKind.i64 0],
              Ob.cells 26
                [AV.int IntKind.i64 (max m (xs.getD i.toNat 0)), AV.int IntKind.i64 (min l (xs.getD i.toNat 0))]] }
else R ((AV.int IntKind.i64 m).cons ((AV.int IntKind.i64 l).cons AV.nl)).agg []) := by kernel_rfl
theorem f61_body (R : AV → List Ob → Prop) (J : St → Prop) (xs : List Int) (i m : Int) : codeA tab (envOf []) (subC [1, 1, 0, 1, 0, 0] (bodyOf Try.f61)) live61 (head61 xs i m) (thenA (fun s => J (s.tidy live61)) (blockA 0 (seqQ tab (envOf []) (subC [1, 1, 1] (bodyOf Try.f61)) [2] (endA tab Try.f61 R)))) = (bif decide (i < (↑xs.length : Int)) then
  0 ≤ i ∧
    i < (↑xs.length : Int) ∧
      bif decide (xs.getD i.toNat (Ty.int IntKind.i64).zero > m) then
        0 ≤ i ∧
          i < (↑xs.length : Int) ∧
            J
              {
                slots :=
                  [AV.list 3 (Ty.int IntKind.i64) xs, AV.undef, AV.int IntKind.i64 0,
                      AV.int IntKind.i64 (xs.getD i.toNat 0), AV.int IntKind.i64 (IntKind.i64.wrap (i + 1))] ++
                    List.replicate 17 AV.undef,
                obs := [] }
      else
        J
          {
            slots :=
              [AV.list 3 (Ty.int IntKind.i64) xs, AV.undef, AV.int IntKind.i64 0, AV.int IntKind.i64 m,
                  AV.int IntKind.i64 (IntKind.i64.wrap (i + 1))] ++
                List.replicate 17 AV.undef,
            obs := [] }
else R (AV.int IntKind.i64 m) []) := by kernel_rfl
theorem f62_body (R : AV → List Ob → Prop) (J : St → Prop) (xs : List Int) (i m : Int) : codeA tab (envOf []) (subC [1, 1, 0, 1, 0, 0] (bodyOf Try.f62)) live61 (head61 xs i m) (thenA (fun s => J (s.tidy live61)) (blockA 0 (seqQ tab (envOf []) (subC [1, 1, 1] (bodyOf Try.f62)) [2] (endA tab Try.f62 R)))) = (bif decide (i < (↑xs.length : Int)) then
  0 ≤ i ∧
    i < (↑xs.length : Int) ∧
      bif decide (xs.getD i.toNat (Ty.int IntKind.i64).zero < m) then
        0 ≤ i ∧
          i < (↑xs.length : Int) ∧
            J
              {
                slots :=
                  [AV.list 3 (Ty.int IntKind.i64) xs, AV.undef, AV.int IntKind.i64 0,
                      AV.int IntKind.i64 (xs.getD i.toNat 0), AV.int IntKind.i64 (IntKind.i64.wrap (i + 1))] ++
                    List.replicate 17 AV.undef,
                obs := [] }
      else
        J
          {
            slots :=
              [AV.list 3 (Ty.int IntKind.i64) xs, AV.undef, AV.int IntKind.i64 0, AV.int IntKind.i64 m,
                  AV.int IntKind.i64 (IntKind.i64.wrap (i + 1))] ++
                List.replicate 17 AV.undef,
            obs := [] }
else R (AV.int IntKind.i64 m) []) := by kernel_rfl
theorem f16_body (R : AV → List Ob → Prop) (J : St → Prop) (xs : List Int) (i : Int) : codeA tab (envOf []) (subC [1, 0, 1, 0, 0] (bodyOf Try.f16)) live16 (head16 xs i) (thenA (fun s => J (s.tidy live16)) (blockA 0 (seqQ tab (envOf []) (subC [1, 1] (bodyOf Try.f16)) [2] (endA tab Try.f16 R)))) = (bif decide (i < (↑xs.length : Int)) then
  0 ≤ i ∧
    i < (↑xs.length : Int) ∧
      bif !decide (xs.getD i.toNat 0 > 1125899906842624) then
        bif decide (xs.getD i.toNat 0 < -1125899906842624) then R (AV.bool false) []
        else
          J
            {
              slots :=
                [AV.undef, AV.undef, AV.bool false, AV.undef, AV.undef, AV.list 3 (Ty.int IntKind.i64) xs,
                    AV.int IntKind.i64 (↑xs.length : Int), AV.int IntKind.i64 (IntKind.i64.wrap (i + 1))] ++
                  List.replicate 10 AV.undef,
              obs := [] }
      else R (AV.bool false) []
else R (AV.bool true) []) := by kernel_rfl
theorem getD_nat (xs : List Int) (i : Nat) (h : i < xs.length) : xs.getD ((i : Int).toNat) 0 = xs[i] := by
  simp [List.getD, h]
theorem wrap_next (i : Nat) (n : Nat) (h : i < n) (hn : n ≤ maxLen) : IntKind.wrap .i64 ((i : Int) + 1) = ((i + 1 : Nat) : Int) := by
  simp only [maxLen] at hn
  simp [IntKind.wrap, IntKind.signed, IntKind.bits]
  omega
theorem most_next (xs : List Int) (i : Nat) (h : i < xs.length) : most (xs.take (i + 1)) = max (most (xs.take i)) xs[i] := by
  unfold most
  rw [List.take_succ_eq_append_getElem h, List.foldl_append]
  rfl
theorem least_next (xs : List Int) (i : Nat) (h : i < xs.length) : least (xs.take (i + 1)) = min (least (xs.take i)) xs[i] := by
  unfold least
  rw [List.take_succ_eq_append_getElem h, List.foldl_append]
  rfl
theorem ok79 {l : Cons} (hl : EnvOk Try.prog (envOf l)) : ConOk Try.prog (79, con79) := by
  intro args t h hp
  simp only [con79] at h
  split at h
  · rename_i a b c d
    cases h
    refine fn_ok hl tab_ok mixed Try.func79 (by kernel_rfl) (by kernel_rfl) ?_
    rw [f79_run]
    have e1 : (if c > a then c else a) = max a c := by rw [Int.max_def]; split <;> split <;> omega
    have e2 : (if d < b then d else b) = min b d := by rw [Int.min_def]; split <;> split <;> omega
    rw [e1, e2]
    exact ⟨rfl, rfl⟩
  · cases h
theorem ok58 : ConOk Try.prog (58, con58) := by
  intro args t h hp
  simp only [con58] at h
  split at h
  · rename_i a b c
    cases h
    refine fn_ok (env := envOf consS1) (envOk_cons (ok79 envOk_nil) envOk_nil) tab_ok mixed Try.func58 (by kernel_rfl) (by kernel_rfl) ?_
    rw [f58_run]
    exact ⟨rfl, rfl⟩
  · cases h
theorem ok59 {l : Cons} (hl : EnvOk Try.prog (envOf l)) : ConOk Try.prog (59, con59) := by
  intro args t h hp
  simp only [con59] at h
  split at h
  · cases h
    refine fn_ok hl tab_ok mixed Try.func59 (by kernel_rfl) (by kernel_rfl) ?_
    rw [f59_run]
    exact ⟨rfl, rfl⟩
  · cases h
theorem envS2a_ok : EnvOk Try.prog (envOf consS2a) := envOk_cons ok58 (envOk_cons (ok59 envOk_nil) (envOk_cons (ok79 envOk_nil) envOk_nil))
def inv60 (xs : List Int) (n : Nat) (s : St) : Prop := ∃ i : Nat, i ≤ xs.length ∧ n = xs.length - i ∧ s = head60 xs i (most (xs.take i)) (least (xs.take i))
theorem ok60 : ConOk Try.prog (60, con60) := by
  intro args t h hp
  simp only [con60] at h
  split at h
  · rename_i xs
    change List Int at xs
    cases h
    refine fn_ok envS2a_ok tab_ok mixed Try.func60 (by kernel_rfl) (by kernel_rfl) ?_
    rw [f60_run]
    have hp1 := hp (xs.length ≤ maxLen) (by simp)
    refine loop_intro (inv60 xs) xs.length ⟨0, Nat.zero_le _, by simp, ?_⟩ ?_
    · have e1 : most (xs.take 0) = 0 := by simp [most]
      have e2 : least (xs.take 0) = 0 := by simp [least]
      rw [e1, e2]
      rfl
    · rintro n s ⟨i, hi, rfl, rfl⟩
      refine Eq.mpr (f60_body (fun v' news' => v' = _ ∧ news' = _) (fun t => ∃ m, m < xs.length - i ∧ inv60 xs m t) xs i (most (xs.take i)) (least (xs.take i))) ?_
      by_cases hlt : i < xs.length
      · have h1 : decide ((i : Int) < (xs.length : Int)) = true := by simpa using hlt
        rw [h1, cond_true]
        refine ⟨by omega, by omega, xs.length - (i + 1), by omega, i + 1, by omega, rfl, ?_⟩
        rw [getD_nat xs i hlt, wrap_next i _ hlt hp1, most_next xs i hlt, least_next xs i hlt]
        rfl
      · have h1 : decide ((i : Int) < (xs.length : Int)) = false := by simpa using hlt
        rw [h1, cond_false]
        have e : xs.take i = xs := List.take_of_length_le (by omega)
        rw [e]
        exact ⟨rfl, rfl⟩
  · cases h
theorem envS2_ok : EnvOk Try.prog (envOf consS2) := envOk_cons ok58 (envOk_cons (ok59 envOk_nil) (envOk_cons ok60 (envOk_cons (ok79 envOk_nil) envOk_nil)))
theorem ok17 : ConOk Try.prog (17, con17) := by
  intro args t h hp
  simp only [con17] at h
  split at h
  · cases h
    refine fn_ok envS2_ok tab_ok mixed Try.func17 (by kernel_rfl) (by kernel_rfl) ?_
    rw [f17_run]
    exact ⟨rfl, rfl⟩
  · cases h
theorem ok18 : ConOk Try.prog (18, con18) := by
  intro args t h hp
  simp only [con18] at h
  split at h
  · cases h
    refine fn_ok envS2_ok tab_ok mixed Try.func18 (by kernel_rfl) (by kernel_rfl) ?_
    rw [f18_run]
    rename_i y m l h0 p; cases p <;> exact ⟨rfl, rfl⟩
  · cases h
theorem ok19 : ConOk Try.prog (19, con19) := by
  intro args t h hp
  simp only [con19] at h
  split at h
  · cases h
    refine fn_ok envS2_ok tab_ok mixed Try.func19 (by kernel_rfl) (by kernel_rfl) ?_
    rw [f19_run]
    exact ⟨by simp, rfl, rfl⟩
  · cases h
theorem envS3_ok : EnvOk Try.prog (envOf consS3) := envOk_cons ok17 (envOk_cons ok18 (envOk_cons ok19 envS2_ok))
theorem ok20 : ConOk Try.prog (20, con20) := by
  intro args t h hp
  simp only [con20] at h
  split at h
  · cases h
    refine fn_ok envS3_ok tab_ok mixed Try.func20 (by kernel_rfl) (by kernel_rfl) ?_
    rw [f20_run]
    exact ⟨rfl, rfl⟩
  · cases h
theorem ok21 : ConOk Try.prog (21, con21) := by
  intro args t h hp
  simp only [con21] at h
  split at h
  · cases h
    refine fn_ok envS3_ok tab_ok mixed Try.func21 (by kernel_rfl) (by kernel_rfl) ?_
    rw [f21_run]
    exact ⟨rfl, rfl⟩
  · cases h
theorem ok23 : ConOk Try.prog (23, con23) := by
  intro args t h hp
  simp only [con23] at h
  split at h
  · cases h
    refine fn_ok envS3_ok tab_ok mixed Try.func23 (by kernel_rfl) (by kernel_rfl) ?_
    rw [f23_run]
    rename_i y m l h0 p c; cases p <;> exact ⟨rfl, rfl⟩
  · cases h
theorem ok15 : ConOk Try.prog (15, con15) := by
  intro args t h hp
  simp only [con15] at h
  split at h
  · cases h
    refine fn_ok envS3_ok tab_ok mixed Try.func15 (by kernel_rfl) (by kernel_rfl) ?_
    rw [f15_run]
    exact ⟨rfl, rfl⟩
  · cases h
def con61 : List AV → Option Tells
  | [.list 3 (.int .i64) xs] => some ⟨[xs.length ≤ maxLen], .int .i64 (most xs), []⟩
  | _ => none
def con62 : List AV → Option Tells
  | [.list 3 (.int .i64) xs] => some ⟨[xs.length ≤ maxLen], .int .i64 (least xs), []⟩
  | _ => none
def consS5 : Cons := [(61, con61), (62, con62)]
theorem f22_run (R : AV → List Ob → Prop) (xs : List Int) : fnA tab (envOf consS5) Try.f22 (bodyOf Try.f22) [.list 3 (.int .i64) xs] R = (xs.length ≤ 9223372036854775807 ∧
  xs.length ≤ 9223372036854775807 ∧ R (AV.int IntKind.i64 (IntKind.i64.wrap (most xs + least xs))) []) := by kernel_rfl
def inv61 (xs : List Int) (n : Nat) (s : St) : Prop := ∃ i : Nat, i ≤ xs.length ∧ n = xs.length - i ∧ s = head61 xs i (most (xs.take i))
theorem ok61 : ConOk Try.prog (61, con61) := by
  intro args t h hp
  simp only [con61] at h
  split at h
  · rename_i xs
    change List Int at xs
    cases h
    refine fn_ok (env := envOf []) envOk_nil tab_ok mixed Try.func61 (by kernel_rfl) (by kernel_rfl) ?_
    rw [f61_run]
    have hp1 := hp (xs.length ≤ maxLen) (by simp)
    refine loop_intro (inv61 xs) xs.length ⟨0, Nat.zero_le _, by simp, ?_⟩ ?_
    · have e1 : most (xs.take 0) = 0 := by simp [most]
      rw [e1]
      rfl
    · rintro n s ⟨i, hi, rfl, rfl⟩
      refine Eq.mpr (f61_body (fun v' news' => v' = _ ∧ news' = _) (fun t => ∃ m, m < xs.length - i ∧ inv61 xs m t) xs i (most (xs.take i))) ?_
      by_cases hlt : i < xs.length
      · have h1 : decide ((i : Int) < (xs.length : Int)) = true := by simpa using hlt
        have hz : xs.getD (i : Int).toNat (Ty.int IntKind.i64).zero = xs[i] := getD_nat xs i hlt
        rw [h1, cond_true, hz, getD_nat xs i hlt, wrap_next i _ hlt hp1]
        refine ⟨by omega, by omega, ?_⟩
        by_cases c1 : xs[i] > most (xs.take i)
        · rw [show decide (xs[i] > most (xs.take i)) = true by simpa using c1, cond_true]
          refine ⟨by omega, by omega, xs.length - (i + 1), by omega, i + 1, by omega, rfl, ?_⟩
          rw [most_next xs i hlt, show max (most (xs.take i)) xs[i] = xs[i] by omega]
          rfl
        · rw [show decide (xs[i] > most (xs.take i)) = false by simpa using c1, cond_false]
          refine ⟨xs.length - (i + 1), by omega, i + 1, by omega, rfl, ?_⟩
          rw [most_next xs i hlt, show max (most (xs.take i)) xs[i] = most (xs.take i) by omega]
          rfl
      · have h1 : decide ((i : Int) < (xs.length : Int)) = false := by simpa using hlt
        rw [h1, cond_false]
        have e : xs.take i = xs := List.take_of_length_le (by omega)
        rw [e]
        exact ⟨rfl, rfl⟩
  · cases h
def inv62 (xs : List Int) (n : Nat) (s : St) : Prop := ∃ i : Nat, i ≤ xs.length ∧ n = xs.length - i ∧ s = head61 xs i (least (xs.take i))
theorem ok62 : ConOk Try.prog (62, con62) := by
  intro args t h hp
  simp only [con62] at h
  split at h
  · rename_i xs
    change List Int at xs
    cases h
    refine fn_ok (env := envOf []) envOk_nil tab_ok mixed Try.func62 (by kernel_rfl) (by kernel_rfl) ?_
    rw [f62_run]
    have hp1 := hp (xs.length ≤ maxLen) (by simp)
    refine loop_intro (inv62 xs) xs.length ⟨0, Nat.zero_le _, by simp, ?_⟩ ?_
    · have e1 : least (xs.take 0) = 0 := by simp [least]
      rw [e1]
      rfl
    · rintro n s ⟨i, hi, rfl, rfl⟩
      refine Eq.mpr (f62_body (fun v' news' => v' = _ ∧ news' = _) (fun t => ∃ m, m < xs.length - i ∧ inv62 xs m t) xs i (least (xs.take i))) ?_
      by_cases hlt : i < xs.length
      · have h1 : decide ((i : Int) < (xs.length : Int)) = true := by simpa using hlt
        have hz : xs.getD (i : Int).toNat (Ty.int IntKind.i64).zero = xs[i] := getD_nat xs i hlt
        rw [h1, cond_true, hz, getD_nat xs i hlt, wrap_next i _ hlt hp1]
        refine ⟨by omega, by omega, ?_⟩
        by_cases c1 : xs[i] < least (xs.take i)
        · rw [show decide (xs[i] < least (xs.take i)) = true by simpa using c1, cond_true]
          refine ⟨by omega, by omega, xs.length - (i + 1), by omega, i + 1, by omega, rfl, ?_⟩
          rw [least_next xs i hlt, show min (least (xs.take i)) xs[i] = xs[i] by omega]
          rfl
        · rw [show decide (xs[i] < least (xs.take i)) = false by simpa using c1, cond_false]
          refine ⟨xs.length - (i + 1), by omega, i + 1, by omega, rfl, ?_⟩
          rw [least_next xs i hlt, show min (least (xs.take i)) xs[i] = least (xs.take i) by omega]
          rfl
      · have h1 : decide ((i : Int) < (xs.length : Int)) = false := by simpa using hlt
        rw [h1, cond_false]
        have e : xs.take i = xs := List.take_of_length_le (by omega)
        rw [e]
        exact ⟨rfl, rfl⟩
  · cases h
theorem ok22 : ConOk Try.prog (22, con22) := by
  intro args t h hp
  simp only [con22] at h
  split at h
  · rename_i xs
    have hp1 := hp
    cases h
    refine fn_ok (env := envOf consS5) (envOk_cons ok61 (envOk_cons ok62 envOk_nil)) tab_ok mixed Try.func22 (by kernel_rfl) (by kernel_rfl) ?_
    rw [f22_run]
    have hp2 := hp (xs.length ≤ maxLen) (by simp)
    exact ⟨hp2, hp2, rfl, rfl⟩
  · cases h
theorem small_next (xs : List Int) (i : Nat) (h : i < xs.length) : small (xs.take (i + 1)) = (small (xs.take i) && (decide (-1125899906842624 ≤ xs[i]) && decide (xs[i] ≤ 1125899906842624))) := by
  unfold small
  rw [List.take_succ_eq_append_getElem h, List.all_append]
  simp
theorem small_not (xs : List Int) (i : Nat) (h : i < xs.length) (hh : ¬ (-1125899906842624 ≤ xs[i] ∧ xs[i] ≤ 1125899906842624)) : small xs = false := by
  cases hs : small xs with
  | false => rfl
  | true =>
    have := List.all_eq_true.1 hs xs[i] (List.getElem_mem h)
    simp at this
    exact absurd this hh
def inv16 (xs : List Int) (n : Nat) (s : St) : Prop := ∃ i : Nat, i ≤ xs.length ∧ small (xs.take i) = true ∧ n = xs.length - i ∧ s = head16 xs i
theorem ok16 : ConOk Try.prog (16, con16) := by
  intro args t h hp
  simp only [con16] at h
  split at h
  · rename_i xs
    change List Int at xs
    cases h
    refine fn_ok (env := envOf []) envOk_nil tab_ok mixed Try.func16 (by kernel_rfl) (by kernel_rfl) ?_
    rw [f16_run]
    have hp1 := hp (xs.length ≤ maxLen) (by simp)
    refine loop_intro (inv16 xs) xs.length ⟨0, Nat.zero_le _, by simp [small], by simp, ?_⟩ ?_
    · rfl
    · rintro n s ⟨i, hi, hs, rfl, rfl⟩
      refine Eq.mpr (f16_body (fun v' news' => v' = _ ∧ news' = _) (fun t => ∃ m, m < xs.length - i ∧ inv16 xs m t) xs i) ?_
      by_cases hlt : i < xs.length
      · have h1 : decide ((i : Int) < (xs.length : Int)) = true := by simpa using hlt
        rw [h1, cond_true, getD_nat xs i hlt]
        refine ⟨by omega, by omega, ?_⟩
        by_cases c1 : xs[i] > 1125899906842624
        · have h2 : (!decide (xs[i] > 1125899906842624)) = false := by simpa using c1
          rw [h2, cond_false, small_not xs i hlt (by omega)]
          exact ⟨rfl, rfl⟩
        · have h2 : (!decide (xs[i] > 1125899906842624)) = true := by simpa using c1
          rw [h2, cond_true]
          by_cases c2 : xs[i] < -1125899906842624
          · rw [show decide (xs[i] < -1125899906842624) = true by simpa using c2, cond_true, small_not xs i hlt (by omega)]
            exact ⟨rfl, rfl⟩
          · rw [show decide (xs[i] < -1125899906842624) = false by simpa using c2, cond_false, wrap_next i _ hlt hp1]
            refine ⟨xs.length - (i + 1), by omega, i + 1, by omega, ?_, rfl, rfl⟩
            rw [small_next xs i hlt, hs]
            simp
            omega
      · have h1 : decide ((i : Int) < (xs.length : Int)) = false := by simpa using hlt
        rw [h1, cond_false]
        have e : xs.take i = xs := List.take_of_length_le (by omega)
        rw [e] at hs
        rw [hs]
        exact ⟨rfl, rfl⟩
  · cases h
theorem envS4_ok : EnvOk Try.prog (envOf consS4) := envOk_cons ok15 (envOk_cons ok16 (envOk_cons ok20 (envOk_cons ok21 (envOk_cons ok22 (envOk_cons ok23 envS3_ok)))))
end Go.Proofs.Ytjhhkfjabaojhaa.W
