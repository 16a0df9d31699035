/- The functions of layers 3 and 15 (strut, spot) and of their references, and what they come to. -/
import Derived.Test.YtjhhkfjabaojhaaWa
import Derived.Test.YtjhhkfjabaojhaaAwZ
import Derived.KernelRfl
namespace Go.Proofs.Ytjhhkfjabaojhaa.W
open Go Go.Proofs Go.Proofs.Ytjhhkfjabaojhaa.Aw
def consS0 : Cons := []
theorem allS0 : ∀ c ∈ consS0, ConOk Try.prog c := all_nil
theorem envS0 : EnvOk Try.prog (envOf consS0) := envOf_ok _ allS0
def most (xs : List Int) : Int := xs.foldl max 0
def least (xs : List Int) : Int := xs.foldl min 0
def small (xs : List Int) : Bool := xs.all fun x => decide (-1125899906842624 ≤ x) && decide (x ≤ 1125899906842624)
def con79 : List AV → Option Tells
  | [.agg (.cons (.int .i64 a) (.cons (.int .i64 b) .nl)), .agg (.cons (.int .i64 c) (.cons (.int .i64 d) .nl))] => some ⟨[], .agg (.cons (.int .i64 (max a c)) (.cons (.int .i64 (min b d)) .nl)), []⟩
  | _ => none
theorem f79_run (R : AV → List Ob → Prop) (a b c d : Int) : fnA tab (envOf consS0) Try.f79 (bodyOf Try.f79) [.agg (.cons (.int .i64 a) (.cons (.int .i64 b) .nl)), .agg (.cons (.int .i64 c) (.cons (.int .i64 d) .nl))] R = (R ((AV.int IntKind.i64 (if c > a then c else a)).cons ((AV.int IntKind.i64 (if d < b then d else b)).cons AV.nl)).agg []) := by kernel_rfl
theorem ok79 : ConOk Try.prog (79, con79) := by
  intro args t h hp
  simp only [con79] at h
  split at h
  · rename_i a b c d
    cases h
    refine fn_ok envS0 tab_ok mixed Try.func79 (by kernel_rfl) (by kernel_rfl) ?_
    rw [f79_run]
    dsimp only
    rw [show (if c > a then c else a) = max a c by omega, show (if d < b then d else b) = min b d by omega]
    exact ⟨rfl, rfl⟩
  · cases h
def con59 : List AV → Option Tells
  | [.agg (.cons (.int .i64 a) (.cons (.int .i64 b) .nl))] => some ⟨[], AV.int IntKind.i64 (IntKind.i64.wrap (a + b)), []⟩
  | _ => none
theorem f59_run (R : AV → List Ob → Prop) (a b : Int) : fnA tab (envOf consS0) Try.f59 (bodyOf Try.f59) [.agg (.cons (.int .i64 a) (.cons (.int .i64 b) .nl))] R = (R (AV.int IntKind.i64 (IntKind.i64.wrap (a + b))) []) := by kernel_rfl
theorem ok59 : ConOk Try.prog (59, con59) := by
  intro args t h hp
  simp only [con59] at h
  split at h
  · cases h
    refine fn_ok envS0 tab_ok mixed Try.func59 (by kernel_rfl) (by kernel_rfl) ?_
    rw [f59_run]
    exact ⟨rfl, rfl⟩
  · cases h
def con61 : List AV → Option Tells
  | [.list 3 (.int .i64) xs] => some ⟨[xs.length ≤ maxLen], .int .i64 (most xs), []⟩
  | _ => none
def f61_live1 : List Nat := [4, 0, 0, 4, 3, 0, 4, 4, 3, 2]
def f61_head1 (xs : List Int) (s3 : Int) (s4 : Int) : St := { slots := [AV.list 3 (Ty.int IntKind.i64) xs, AV.undef, AV.int IntKind.i64 0, AV.int IntKind.i64 s3, AV.int IntKind.i64 s4] ++ List.replicate 17 AV.undef, obs := [] }
def f61_q1 (R : AV → List Ob → Prop) : Ex → St → Prop := blockA 0 (seqQ tab (envOf consS0) (subC [1, 1, 1] (bodyOf Try.f61)) [2] (endA tab Try.f61 R))
def f61_loop1 (R : AV → List Ob → Prop) (xs : List Int) (s3 : Int) (s4 : Int) : Prop := loopT f61_live1 (codeA tab (envOf consS0) (subC [1, 1, 0, 1, 0, 0] (bodyOf Try.f61)) f61_live1) (f61_head1 xs s3 s4) (f61_q1 R)
def f61_rhs1 (R : AV → List Ob → Prop) (xs : List Int) (J : St → Prop) (s3 : Int) (s4 : Int) : Prop := bif decide (s4 < (↑xs.length : Int)) then 0 ≤ s4 ∧ s4 < (↑xs.length : Int) ∧ bif decide (xs.getD s4.toNat (Ty.int IntKind.i64).zero > s3) then 0 ≤ s4 ∧ s4 < (↑xs.length : Int) ∧ J (f61_head1 xs (xs.getD s4.toNat 0) (IntKind.i64.wrap (s4 + 1))) else J (f61_head1 xs s3 (IntKind.i64.wrap (s4 + 1))) else R (AV.int IntKind.i64 s3) []
theorem f61_eq1 (R : AV → List Ob → Prop) (xs : List Int) (J : St → Prop) (s3 : Int) (s4 : Int) : codeA tab (envOf consS0) (subC [1, 1, 0, 1, 0, 0] (bodyOf Try.f61)) f61_live1 (f61_head1 xs s3 s4) (thenA (fun s => J (St.tidy f61_live1 s)) (f61_q1 R)) = f61_rhs1 R xs J s3 s4 := by kernel_rfl
theorem f61_rule1 (R : AV → List Ob → Prop) (xs : List Int) (I : Nat → (Int) → (Int) → Prop) (n : Nat) (s3 : Int) (s4 : Int) (h0 : I n s3 s4) (h : ∀ n, ∀ (s3 : Int) (s4 : Int), I n s3 s4 → f61_rhs1 R xs (fun t => ∃ m, m < n ∧ ∃ (s3 : Int) (s4 : Int), t = f61_head1 xs s3 s4 ∧ I m s3 s4) s3 s4) : f61_loop1 R xs s3 s4 :=
  loop_intro (fun n t => ∃ (s3 : Int) (s4 : Int), t = f61_head1 xs s3 s4 ∧ I n s3 s4) n ⟨s3, s4, rfl, h0⟩ (fun n t ht => by obtain ⟨s3, s4, rfl, hI⟩ := ht; exact Eq.mpr (f61_eq1 R xs (fun t => ∃ m, m < n ∧ ∃ (s3 : Int) (s4 : Int), t = f61_head1 xs s3 s4 ∧ I m s3 s4) s3 s4) (h n s3 s4 hI))
theorem f61_run (R : AV → List Ob → Prop) (xs : List Int) : fnA tab (envOf consS0) Try.f61 (bodyOf Try.f61) [.list 3 (.int .i64) xs] R = (f61_loop1 R xs 0 0) := by kernel_rfl
theorem ok61 : ConOk Try.prog (61, con61) := by
  intro args t h hp
  simp only [con61] at h
  split at h
  · rename_i xs
    change List Int at xs
    cases h
    refine fn_ok envS0 tab_ok mixed Try.func61 (by kernel_rfl) (by kernel_rfl) ?_
    rw [f61_run]
    dsimp only
    have hm := hp (xs.length ≤ maxLen) (by simp)
    refine f61_rule1 _ xs (fun n m i => ∃ k : Nat, k ≤ xs.length ∧ n = xs.length - k ∧ i = k ∧ m = most (xs.take k)) xs.length 0 0 ⟨0, by omega, by simp, rfl, by simp [most]⟩ ?_
    rintro n m i ⟨k, hk, rfl, rfl, rfl⟩
    unfold f61_rhs1
    refine dec_split (fun hlt => ⟨by omega, hlt, ?_⟩) (fun hlt => ?_)
    · have hlt' : k < xs.length := by omega
      have tn := take_next xs k hlt'
      rw [show xs.getD ((k : Int)).toNat (Ty.int IntKind.i64).zero = xs[k] from getD_nat xs _ k hlt', wrap_next k _ hlt' hm, getD_nat xs _ k hlt']
      refine dec_split (fun h => ⟨by omega, hlt, ?_⟩) (fun h => ?_)
      · refine ⟨xs.length - (k + 1), by omega, _, _, rfl, k + 1, by omega, rfl, rfl, ?_⟩
        rw [tn, most, List.foldl_append, List.foldl_cons, List.foldl_nil]
        unfold most at h
        omega
      · refine ⟨xs.length - (k + 1), by omega, _, _, rfl, k + 1, by omega, rfl, rfl, ?_⟩
        rw [tn]
        unfold most at h ⊢
        rw [List.foldl_append, List.foldl_cons, List.foldl_nil]
        omega
    · rw [take_all xs k (by omega)]
      exact ⟨rfl, rfl⟩
  · cases h
def con62 : List AV → Option Tells
  | [.list 3 (.int .i64) xs] => some ⟨[xs.length ≤ maxLen], .int .i64 (least xs), []⟩
  | _ => none
def f62_live1 : List Nat := [4, 0, 0, 4, 3, 0, 4, 4, 3, 2]
def f62_head1 (xs : List Int) (s3 : Int) (s4 : Int) : St := { slots := [AV.list 3 (Ty.int IntKind.i64) xs, AV.undef, AV.int IntKind.i64 0, AV.int IntKind.i64 s3, AV.int IntKind.i64 s4] ++ List.replicate 17 AV.undef, obs := [] }
def f62_q1 (R : AV → List Ob → Prop) : Ex → St → Prop := blockA 0 (seqQ tab (envOf consS0) (subC [1, 1, 1] (bodyOf Try.f62)) [2] (endA tab Try.f62 R))
def f62_loop1 (R : AV → List Ob → Prop) (xs : List Int) (s3 : Int) (s4 : Int) : Prop := loopT f62_live1 (codeA tab (envOf consS0) (subC [1, 1, 0, 1, 0, 0] (bodyOf Try.f62)) f62_live1) (f62_head1 xs s3 s4) (f62_q1 R)
def f62_rhs1 (R : AV → List Ob → Prop) (xs : List Int) (J : St → Prop) (s3 : Int) (s4 : Int) : Prop := bif decide (s4 < (↑xs.length : Int)) then 0 ≤ s4 ∧ s4 < (↑xs.length : Int) ∧ bif decide (xs.getD s4.toNat (Ty.int IntKind.i64).zero < s3) then 0 ≤ s4 ∧ s4 < (↑xs.length : Int) ∧ J (f62_head1 xs (xs.getD s4.toNat 0) (IntKind.i64.wrap (s4 + 1))) else J (f62_head1 xs s3 (IntKind.i64.wrap (s4 + 1))) else R (AV.int IntKind.i64 s3) []
theorem f62_eq1 (R : AV → List Ob → Prop) (xs : List Int) (J : St → Prop) (s3 : Int) (s4 : Int) : codeA tab (envOf consS0) (subC [1, 1, 0, 1, 0, 0] (bodyOf Try.f62)) f62_live1 (f62_head1 xs s3 s4) (thenA (fun s => J (St.tidy f62_live1 s)) (f62_q1 R)) = f62_rhs1 R xs J s3 s4 := by kernel_rfl
theorem f62_rule1 (R : AV → List Ob → Prop) (xs : List Int) (I : Nat → (Int) → (Int) → Prop) (n : Nat) (s3 : Int) (s4 : Int) (h0 : I n s3 s4) (h : ∀ n, ∀ (s3 : Int) (s4 : Int), I n s3 s4 → f62_rhs1 R xs (fun t => ∃ m, m < n ∧ ∃ (s3 : Int) (s4 : Int), t = f62_head1 xs s3 s4 ∧ I m s3 s4) s3 s4) : f62_loop1 R xs s3 s4 :=
  loop_intro (fun n t => ∃ (s3 : Int) (s4 : Int), t = f62_head1 xs s3 s4 ∧ I n s3 s4) n ⟨s3, s4, rfl, h0⟩ (fun n t ht => by obtain ⟨s3, s4, rfl, hI⟩ := ht; exact Eq.mpr (f62_eq1 R xs (fun t => ∃ m, m < n ∧ ∃ (s3 : Int) (s4 : Int), t = f62_head1 xs s3 s4 ∧ I m s3 s4) s3 s4) (h n s3 s4 hI))
theorem f62_run (R : AV → List Ob → Prop) (xs : List Int) : fnA tab (envOf consS0) Try.f62 (bodyOf Try.f62) [.list 3 (.int .i64) xs] R = (f62_loop1 R xs 0 0) := by kernel_rfl
theorem ok62 : ConOk Try.prog (62, con62) := by
  intro args t h hp
  simp only [con62] at h
  split at h
  · rename_i xs
    change List Int at xs
    cases h
    refine fn_ok envS0 tab_ok mixed Try.func62 (by kernel_rfl) (by kernel_rfl) ?_
    rw [f62_run]
    dsimp only
    have hm := hp (xs.length ≤ maxLen) (by simp)
    refine f62_rule1 _ xs (fun n m i => ∃ k : Nat, k ≤ xs.length ∧ n = xs.length - k ∧ i = k ∧ m = least (xs.take k)) xs.length 0 0 ⟨0, by omega, by simp, rfl, by simp [least]⟩ ?_
    rintro n m i ⟨k, hk, rfl, rfl, rfl⟩
    unfold f62_rhs1
    refine dec_split (fun hlt => ⟨by omega, hlt, ?_⟩) (fun hlt => ?_)
    · have hlt' : k < xs.length := by omega
      have tn := take_next xs k hlt'
      rw [show xs.getD ((k : Int)).toNat (Ty.int IntKind.i64).zero = xs[k] from getD_nat xs _ k hlt', wrap_next k _ hlt' hm, getD_nat xs _ k hlt']
      refine dec_split (fun h => ⟨by omega, hlt, ?_⟩) (fun h => ?_)
      · refine ⟨xs.length - (k + 1), by omega, _, _, rfl, k + 1, by omega, rfl, rfl, ?_⟩
        rw [tn, least, List.foldl_append, List.foldl_cons, List.foldl_nil]
        unfold least at h
        omega
      · refine ⟨xs.length - (k + 1), by omega, _, _, rfl, k + 1, by omega, rfl, rfl, ?_⟩
        rw [tn]
        unfold least at h ⊢
        rw [List.foldl_append, List.foldl_cons, List.foldl_nil]
        omega
    · rw [take_all xs k (by omega)]
      exact ⟨rfl, rfl⟩
  · cases h
def con16 : List AV → Option Tells
  | [.list 3 (.int .i64) xs] => some ⟨[xs.length ≤ maxLen], .bool (small xs), []⟩
  | _ => none
def f16_live1 : List Nat := [7, 6, 5, 7, 7, 2]
def f16_head1 (xs : List Int) (s7 : Int) : St := { slots := [AV.undef, AV.undef, AV.bool false, AV.undef, AV.undef, AV.list 3 (Ty.int IntKind.i64) xs, AV.int IntKind.i64 (↑xs.length : Int), AV.int IntKind.i64 s7] ++ List.replicate 10 AV.undef, obs := [] }
def f16_q1 (R : AV → List Ob → Prop) : Ex → St → Prop := blockA 0 (seqQ tab (envOf consS0) (subC [1, 1] (bodyOf Try.f16)) [2] (endA tab Try.f16 R))
def f16_loop1 (R : AV → List Ob → Prop) (xs : List Int) (s7 : Int) : Prop := loopT f16_live1 (codeA tab (envOf consS0) (subC [1, 0, 1, 0, 0] (bodyOf Try.f16)) f16_live1) (f16_head1 xs s7) (f16_q1 R)
def f16_rhs1 (R : AV → List Ob → Prop) (xs : List Int) (J : St → Prop) (s7 : Int) : Prop := bif decide (s7 < (↑xs.length : Int)) then 0 ≤ s7 ∧ s7 < (↑xs.length : Int) ∧ bif !decide (xs.getD s7.toNat 0 > 1125899906842624) then bif decide (xs.getD s7.toNat 0 < -1125899906842624) then R (AV.bool false) [] else J (f16_head1 xs (IntKind.i64.wrap (s7 + 1))) else R (AV.bool false) [] else R (AV.bool true) []
theorem f16_eq1 (R : AV → List Ob → Prop) (xs : List Int) (J : St → Prop) (s7 : Int) : codeA tab (envOf consS0) (subC [1, 0, 1, 0, 0] (bodyOf Try.f16)) f16_live1 (f16_head1 xs s7) (thenA (fun s => J (St.tidy f16_live1 s)) (f16_q1 R)) = f16_rhs1 R xs J s7 := by kernel_rfl
theorem f16_rule1 (R : AV → List Ob → Prop) (xs : List Int) (I : Nat → (Int) → Prop) (n : Nat) (s7 : Int) (h0 : I n s7) (h : ∀ n, ∀ (s7 : Int), I n s7 → f16_rhs1 R xs (fun t => ∃ m, m < n ∧ ∃ (s7 : Int), t = f16_head1 xs s7 ∧ I m s7) s7) : f16_loop1 R xs s7 :=
  loop_intro (fun n t => ∃ (s7 : Int), t = f16_head1 xs s7 ∧ I n s7) n ⟨s7, rfl, h0⟩ (fun n t ht => by obtain ⟨s7, rfl, hI⟩ := ht; exact Eq.mpr (f16_eq1 R xs (fun t => ∃ m, m < n ∧ ∃ (s7 : Int), t = f16_head1 xs s7 ∧ I m s7) s7) (h n s7 hI))
theorem f16_run (R : AV → List Ob → Prop) (xs : List Int) : fnA tab (envOf consS0) Try.f16 (bodyOf Try.f16) [.list 3 (.int .i64) xs] R = (f16_loop1 R xs 0) := by kernel_rfl
theorem ok16 : ConOk Try.prog (16, con16) := by
  intro args t h hp
  simp only [con16] at h
  split at h
  · rename_i xs
    change List Int at xs
    cases h
    refine fn_ok envS0 tab_ok mixed Try.func16 (by kernel_rfl) (by kernel_rfl) ?_
    rw [f16_run]
    dsimp only
    have hm := hp (xs.length ≤ maxLen) (by simp)
    refine f16_rule1 _ xs (fun n i => ∃ k : Nat, k ≤ xs.length ∧ n = xs.length - k ∧ i = k ∧ small (xs.take k) = true) xs.length 0 ⟨0, by omega, by simp, rfl, by simp [small]⟩ ?_
    rintro n i ⟨k, hk, rfl, rfl, hs⟩
    unfold f16_rhs1
    refine dec_split (fun hlt => ⟨by omega, hlt, ?_⟩) (fun hlt => ?_)
    · have hlt' : k < xs.length := by omega
      have hbad : (xs[k] < -1125899906842624 ∨ xs[k] > 1125899906842624) → small xs = false := by
        intro h
        rw [Bool.eq_false_iff]
        intro h2
        have := List.all_eq_true.1 h2 xs[k] (List.getElem_mem hlt')
        simp at this
        omega
      rw [getD_nat xs _ k hlt']
      refine ndec_split (fun h1 => dec_split (fun h2 => ⟨by rw [hbad (.inl h2)], rfl⟩) (fun h2 => ?_)) (fun h1 => ⟨by rw [hbad (.inr h1)], rfl⟩)
      rw [wrap_next k _ hlt' hm]
      refine ⟨xs.length - (k + 1), by omega, _, rfl, k + 1, by omega, rfl, rfl, ?_⟩
      rw [take_next xs k hlt', small, List.all_append, Bool.and_eq_true]
      refine ⟨hs, ?_⟩
      simp
      omega
    · rw [take_all xs k (by omega)] at hs
      exact ⟨by rw [hs], rfl⟩
  · cases h
def consS1 : Cons := (79, con79) :: (59, con59) :: (61, con61) :: (62, con62) :: (16, con16) :: []
theorem allS1 : ∀ c ∈ consS1, ConOk Try.prog c := all_cons ok79 (all_cons ok59 (all_cons ok61 (all_cons ok62 (all_cons ok16 all_nil))))
theorem envS1 : EnvOk Try.prog (envOf consS1) := envOf_ok _ allS1
def con58 : List AV → Option Tells
  | [.agg (.cons (.int .i64 a) (.cons (.int .i64 b) .nl)), .int .i64 c] => some ⟨[], ((AV.int IntKind.i64 (max a c)).cons ((AV.int IntKind.i64 (min b c)).cons AV.nl)).agg, []⟩
  | _ => none
theorem f58_run (R : AV → List Ob → Prop) (a b c : Int) : fnA tab (envOf consS1) Try.f58 (bodyOf Try.f58) [.agg (.cons (.int .i64 a) (.cons (.int .i64 b) .nl)), .int .i64 c] R = (R ((AV.int IntKind.i64 (max a c)).cons ((AV.int IntKind.i64 (min b c)).cons AV.nl)).agg []) := by kernel_rfl
theorem ok58 : ConOk Try.prog (58, con58) := by
  intro args t h hp
  simp only [con58] at h
  split at h
  · cases h
    refine fn_ok envS1 tab_ok mixed Try.func58 (by kernel_rfl) (by kernel_rfl) ?_
    rw [f58_run]
    exact ⟨rfl, rfl⟩
  · cases h
def con22 : List AV → Option Tells
  | [.list 3 (.int .i64) xs] => some ⟨[xs.length ≤ 9223372036854775807, xs.length ≤ 9223372036854775807], AV.int IntKind.i64 (IntKind.i64.wrap (most xs + least xs)), []⟩
  | _ => none
theorem f22_run (R : AV → List Ob → Prop) (xs : List Int) : fnA tab (envOf consS1) Try.f22 (bodyOf Try.f22) [.list 3 (.int .i64) xs] R = (xs.length ≤ 9223372036854775807 ∧ xs.length ≤ 9223372036854775807 ∧ R (AV.int IntKind.i64 (IntKind.i64.wrap (most xs + least xs))) []) := by kernel_rfl
theorem ok22 : ConOk Try.prog (22, con22) := by
  intro args t h hp
  simp only [con22] at h
  split at h
  · cases h
    refine fn_ok envS1 tab_ok mixed Try.func22 (by kernel_rfl) (by kernel_rfl) ?_
    rw [f22_run]
    exact ⟨hp _ (List.Mem.head _), ⟨hp _ (List.Mem.tail _ (List.Mem.head _)), ⟨rfl, rfl⟩⟩⟩
  · cases h
def consS2 : Cons := (58, con58) :: (22, con22) :: consS1
theorem allS2 : ∀ c ∈ consS2, ConOk Try.prog c := all_cons ok58 (all_cons ok22 allS1)
theorem envS2 : EnvOk Try.prog (envOf consS2) := envOf_ok _ allS2
def con60 : List AV → Option Tells
  | [.list 3 (.int .i64) xs] => some ⟨[xs.length ≤ maxLen], .agg (.cons (.int .i64 (most xs)) (.cons (.int .i64 (least xs)) .nl)), []⟩
  | _ => none
def f60_live1 : List Nat := [8, 7, 6, 8, 3, 3, 8, 3, 2, 2]
def f60_head1 (xs : List Int) (s8 : Int) (o1_0 : Int) (o1_1 : Int) : St := { slots := [AV.undef, AV.undef, AV.ptr 0 0, AV.ptr 1 0, AV.undef, AV.undef, AV.list 3 (Ty.int IntKind.i64) xs, AV.int IntKind.i64 (↑xs.length : Int), AV.int IntKind.i64 s8] ++ List.replicate 8 AV.undef, obs := [Ob.cells 26 [AV.int IntKind.i64 0, AV.int IntKind.i64 0], Ob.cells 26 [AV.int IntKind.i64 o1_0, AV.int IntKind.i64 o1_1]] }
def f60_q1 (R : AV → List Ob → Prop) : Ex → St → Prop := blockA 0 (seqQ tab (envOf consS2) (subC [1, 1, 1] (bodyOf Try.f60)) [2] (endA tab Try.f60 R))
def f60_loop1 (R : AV → List Ob → Prop) (xs : List Int) (s8 : Int) (o1_0 : Int) (o1_1 : Int) : Prop := loopT f60_live1 (codeA tab (envOf consS2) (subC [1, 1, 0, 1, 0, 0] (bodyOf Try.f60)) f60_live1) (f60_head1 xs s8 o1_0 o1_1) (f60_q1 R)
def f60_rhs1 (R : AV → List Ob → Prop) (xs : List Int) (J : St → Prop) (s8 : Int) (o1_0 : Int) (o1_1 : Int) : Prop := bif decide (s8 < (↑xs.length : Int)) then 0 ≤ s8 ∧ s8 < (↑xs.length : Int) ∧ J (f60_head1 xs (IntKind.i64.wrap (s8 + 1)) (max o1_0 (xs.getD s8.toNat 0)) (min o1_1 (xs.getD s8.toNat 0))) else R ((AV.int IntKind.i64 o1_0).cons ((AV.int IntKind.i64 o1_1).cons AV.nl)).agg []
theorem f60_eq1 (R : AV → List Ob → Prop) (xs : List Int) (J : St → Prop) (s8 : Int) (o1_0 : Int) (o1_1 : Int) : codeA tab (envOf consS2) (subC [1, 1, 0, 1, 0, 0] (bodyOf Try.f60)) f60_live1 (f60_head1 xs s8 o1_0 o1_1) (thenA (fun s => J (St.tidy f60_live1 s)) (f60_q1 R)) = f60_rhs1 R xs J s8 o1_0 o1_1 := by kernel_rfl
theorem f60_rule1 (R : AV → List Ob → Prop) (xs : List Int) (I : Nat → (Int) → (Int) → (Int) → Prop) (n : Nat) (s8 : Int) (o1_0 : Int) (o1_1 : Int) (h0 : I n s8 o1_0 o1_1) (h : ∀ n, ∀ (s8 : Int) (o1_0 : Int) (o1_1 : Int), I n s8 o1_0 o1_1 → f60_rhs1 R xs (fun t => ∃ m, m < n ∧ ∃ (s8 : Int) (o1_0 : Int) (o1_1 : Int), t = f60_head1 xs s8 o1_0 o1_1 ∧ I m s8 o1_0 o1_1) s8 o1_0 o1_1) : f60_loop1 R xs s8 o1_0 o1_1 :=
  loop_intro (fun n t => ∃ (s8 : Int) (o1_0 : Int) (o1_1 : Int), t = f60_head1 xs s8 o1_0 o1_1 ∧ I n s8 o1_0 o1_1) n ⟨s8, o1_0, o1_1, rfl, h0⟩ (fun n t ht => by obtain ⟨s8, o1_0, o1_1, rfl, hI⟩ := ht; exact Eq.mpr (f60_eq1 R xs (fun t => ∃ m, m < n ∧ ∃ (s8 : Int) (o1_0 : Int) (o1_1 : Int), t = f60_head1 xs s8 o1_0 o1_1 ∧ I m s8 o1_0 o1_1) s8 o1_0 o1_1) (h n s8 o1_0 o1_1 hI))
theorem f60_run (R : AV → List Ob → Prop) (xs : List Int) : fnA tab (envOf consS2) Try.f60 (bodyOf Try.f60) [.list 3 (.int .i64) xs] R = (f60_loop1 R xs 0 0 0) := by kernel_rfl
theorem ok60 : ConOk Try.prog (60, con60) := by
  intro args t h hp
  simp only [con60] at h
  split at h
  · rename_i xs
    change List Int at xs
    cases h
    refine fn_ok envS2 tab_ok mixed Try.func60 (by kernel_rfl) (by kernel_rfl) ?_
    rw [f60_run]
    dsimp only
    have hm := hp (xs.length ≤ maxLen) (by simp)
    refine f60_rule1 _ xs (fun n i a b => ∃ k : Nat, k ≤ xs.length ∧ n = xs.length - k ∧ i = k ∧ a = most (xs.take k) ∧ b = least (xs.take k)) xs.length 0 0 0 ⟨0, by omega, by simp, rfl, by simp [most], by simp [least]⟩ ?_
    rintro n i a b ⟨k, hk, rfl, rfl, rfl, rfl⟩
    unfold f60_rhs1
    refine dec_split (fun hlt => ⟨by omega, hlt, ?_⟩) (fun hlt => ?_)
    · have hlt' : k < xs.length := by omega
      have tn := take_next xs k hlt'
      rw [getD_nat xs _ k hlt', wrap_next k _ hlt' hm]
      refine ⟨xs.length - (k + 1), by omega, _, _, _, rfl, k + 1, by omega, rfl, rfl, ?_, ?_⟩
      · rw [tn, most, most, List.foldl_append, List.foldl_cons, List.foldl_nil]
      · rw [tn, least, least, List.foldl_append, List.foldl_cons, List.foldl_nil]
    · rw [take_all xs k (by omega)]
      exact ⟨rfl, rfl⟩
  · cases h
def con17 : List AV → Option Tells
  | [.agg (.cons (.int .i64 y) (.cons (.int .i64 m) (.cons (.int .i64 l) (.cons (.bool h) (.cons (.bool s) .nl))))), .int .i64 x] => some ⟨[], ((AV.int IntKind.i64 y).cons ((AV.int IntKind.i64 (max m x)).cons ((AV.int IntKind.i64 (min l x)).cons ((AV.bool h).cons ((AV.bool s).cons AV.nl))))).agg, []⟩
  | _ => none
theorem f17_run (R : AV → List Ob → Prop) (y m l x : Int) (h s : Bool) : fnA tab (envOf consS2) Try.f17 (bodyOf Try.f17) [.agg (.cons (.int .i64 y) (.cons (.int .i64 m) (.cons (.int .i64 l) (.cons (.bool h) (.cons (.bool s) .nl))))), .int .i64 x] R = (R ((AV.int IntKind.i64 y).cons ((AV.int IntKind.i64 (max m x)).cons ((AV.int IntKind.i64 (min l x)).cons ((AV.bool h).cons ((AV.bool s).cons AV.nl))))).agg []) := by kernel_rfl
theorem ok17 : ConOk Try.prog (17, con17) := by
  intro args t h hp
  simp only [con17] at h
  split at h
  · cases h
    refine fn_ok envS2 tab_ok mixed Try.func17 (by kernel_rfl) (by kernel_rfl) ?_
    rw [f17_run]
    exact ⟨rfl, rfl⟩
  · cases h
def con18 : List AV → Option Tells
  | [.agg (.cons (.int .i64 y) (.cons (.int .i64 m) (.cons (.int .i64 l) (.cons (.bool h) (.cons (.bool s) .nl)))))] => some ⟨[], AV.int IntKind.i64 (bif s then y else IntKind.i64.wrap (y + IntKind.i64.wrap (m + l))), []⟩
  | _ => none
theorem f18_run (R : AV → List Ob → Prop) (y m l : Int) (h s : Bool) : fnA tab (envOf consS2) Try.f18 (bodyOf Try.f18) [.agg (.cons (.int .i64 y) (.cons (.int .i64 m) (.cons (.int .i64 l) (.cons (.bool h) (.cons (.bool s) .nl)))))] R = (bif s then R (AV.int IntKind.i64 y) [] else R (AV.int IntKind.i64 (IntKind.i64.wrap (y + IntKind.i64.wrap (m + l)))) []) := by kernel_rfl
theorem ok18 : ConOk Try.prog (18, con18) := by
  intro args t h hp
  simp only [con18] at h
  split at h
  · cases h
    refine fn_ok envS2 tab_ok mixed Try.func18 (by kernel_rfl) (by kernel_rfl) ?_
    rw [f18_run]
    exact cond_split (fun h0 => ⟨by simp only [h0, cond_true, cond_false], by first | rfl | simp only [h0, cond_true, cond_false]⟩) (fun h0 => ⟨by simp only [h0, cond_true, cond_false], by first | rfl | simp only [h0, cond_true, cond_false]⟩)
  · cases h
def consS3 : Cons := (60, con60) :: (17, con17) :: (18, con18) :: consS2
theorem allS3 : ∀ c ∈ consS3, ConOk Try.prog c := all_cons ok60 (all_cons ok17 (all_cons ok18 allS2))
theorem envS3 : EnvOk Try.prog (envOf consS3) := envOf_ok _ allS3
def con19 : List AV → Option Tells
  | [.int .i64 y, .int .i64 m] => some ⟨[], ((AV.int IntKind.i64 y).cons ((AV.int IntKind.i64 (most [m])).cons ((AV.int IntKind.i64 (least [m])).cons ((AV.bool false).cons ((AV.bool false).cons AV.nl))))).agg, []⟩
  | _ => none
theorem f19_run (R : AV → List Ob → Prop) (y m : Int) : fnA tab (envOf consS3) Try.f19 (bodyOf Try.f19) [.int .i64 y, .int .i64 m] R = (1 ≤ 9223372036854775807 ∧ R ((AV.int IntKind.i64 y).cons ((AV.int IntKind.i64 (most [m])).cons ((AV.int IntKind.i64 (least [m])).cons ((AV.bool false).cons ((AV.bool false).cons AV.nl))))).agg []) := by kernel_rfl
theorem ok19 : ConOk Try.prog (19, con19) := by
  intro args t h hp
  simp only [con19] at h
  split at h
  · cases h
    refine fn_ok envS3 tab_ok mixed Try.func19 (by kernel_rfl) (by kernel_rfl) ?_
    rw [f19_run]
    exact ⟨of_decide_eq_true rfl, ⟨rfl, rfl⟩⟩
  · cases h
def con21 : List AV → Option Tells
  | [.agg (.cons (.int .i64 y) (.cons (.int .i64 m) (.cons (.int .i64 l) (.cons (.bool h) (.cons (.bool s) .nl))))), .int .i64 x] => some ⟨[], ((AV.int IntKind.i64 (IntKind.i64.wrap ((bif s then y else IntKind.i64.wrap (y + IntKind.i64.wrap (m + l))) + x))).cons ((AV.int IntKind.i64 0).cons ((AV.int IntKind.i64 0).cons ((AV.bool false).cons ((AV.bool false).cons AV.nl))))).agg, []⟩
  | _ => none
theorem f21_run (R : AV → List Ob → Prop) (y m l x : Int) (h s : Bool) : fnA tab (envOf consS3) Try.f21 (bodyOf Try.f21) [.agg (.cons (.int .i64 y) (.cons (.int .i64 m) (.cons (.int .i64 l) (.cons (.bool h) (.cons (.bool s) .nl))))), .int .i64 x] R = (R ((AV.int IntKind.i64 (IntKind.i64.wrap ((bif s then y else IntKind.i64.wrap (y + IntKind.i64.wrap (m + l))) + x))).cons ((AV.int IntKind.i64 0).cons ((AV.int IntKind.i64 0).cons ((AV.bool false).cons ((AV.bool false).cons AV.nl))))).agg []) := by kernel_rfl
theorem ok21 : ConOk Try.prog (21, con21) := by
  intro args t h hp
  simp only [con21] at h
  split at h
  · cases h
    refine fn_ok envS3 tab_ok mixed Try.func21 (by kernel_rfl) (by kernel_rfl) ?_
    rw [f21_run]
    exact ⟨rfl, rfl⟩
  · cases h
def con23 : List AV → Option Tells
  | [.agg (.cons (.int .i64 y) (.cons (.int .i64 m) (.cons (.int .i64 l) (.cons (.bool h) (.cons (.bool s) .nl))))), .int .i64 x] => some ⟨[], ((AV.int IntKind.i64 (bif s then IntKind.i64.wrap (y - IntKind.i64.wrap (m + l)) else y)).cons ((AV.int IntKind.i64 (max m x)).cons ((AV.int IntKind.i64 (min l x)).cons ((AV.bool (bif s then true else h)).cons ((AV.bool (bif s then false else s)).cons AV.nl))))).agg, []⟩
  | _ => none
theorem f23_run (R : AV → List Ob → Prop) (y m l x : Int) (h s : Bool) : fnA tab (envOf consS3) Try.f23 (bodyOf Try.f23) [.agg (.cons (.int .i64 y) (.cons (.int .i64 m) (.cons (.int .i64 l) (.cons (.bool h) (.cons (.bool s) .nl))))), .int .i64 x] R = (bif s then R ((AV.int IntKind.i64 (IntKind.i64.wrap (y - IntKind.i64.wrap (m + l)))).cons ((AV.int IntKind.i64 (max m x)).cons ((AV.int IntKind.i64 (min l x)).cons ((AV.bool true).cons ((AV.bool false).cons AV.nl))))).agg [] else R ((AV.int IntKind.i64 y).cons ((AV.int IntKind.i64 (max m x)).cons ((AV.int IntKind.i64 (min l x)).cons ((AV.bool h).cons ((AV.bool s).cons AV.nl))))).agg []) := by kernel_rfl
theorem ok23 : ConOk Try.prog (23, con23) := by
  intro args t h hp
  simp only [con23] at h
  split at h
  · cases h
    refine fn_ok envS3 tab_ok mixed Try.func23 (by kernel_rfl) (by kernel_rfl) ?_
    rw [f23_run]
    exact cond_split (fun h0 => ⟨by simp only [h0, cond_true, cond_false], by first | rfl | simp only [h0, cond_true, cond_false]⟩) (fun h0 => ⟨by simp only [h0, cond_true, cond_false], by first | rfl | simp only [h0, cond_true, cond_false]⟩)
  · cases h
def consS4 : Cons := (19, con19) :: (21, con21) :: (23, con23) :: consS3
theorem allS4 : ∀ c ∈ consS4, ConOk Try.prog c := all_cons ok19 (all_cons ok21 (all_cons ok23 allS3))
theorem envS4 : EnvOk Try.prog (envOf consS4) := envOf_ok _ allS4
def con20 : List AV → Option Tells
  | [.int .i64 y, .int .i64 m] => some ⟨[], ((AV.int IntKind.i64 y).cons ((AV.int IntKind.i64 (most [m])).cons ((AV.int IntKind.i64 (least [m])).cons ((AV.bool false).cons ((AV.bool true).cons AV.nl))))).agg, []⟩
  | _ => none
theorem f20_run (R : AV → List Ob → Prop) (y m : Int) : fnA tab (envOf consS4) Try.f20 (bodyOf Try.f20) [.int .i64 y, .int .i64 m] R = (R ((AV.int IntKind.i64 y).cons ((AV.int IntKind.i64 (most [m])).cons ((AV.int IntKind.i64 (least [m])).cons ((AV.bool false).cons ((AV.bool true).cons AV.nl))))).agg []) := by kernel_rfl
theorem ok20 : ConOk Try.prog (20, con20) := by
  intro args t h hp
  simp only [con20] at h
  split at h
  · cases h
    refine fn_ok envS4 tab_ok mixed Try.func20 (by kernel_rfl) (by kernel_rfl) ?_
    rw [f20_run]
    exact ⟨rfl, rfl⟩
  · cases h
def con15 : List AV → Option Tells
  | [] => some ⟨[], AV.bool true, []⟩
  | _ => none
theorem f15_run (R : AV → List Ob → Prop)  : fnA tab (envOf consS4) Try.f15 (bodyOf Try.f15) [] R = (R (AV.bool true) []) := by kernel_rfl
theorem ok15 : ConOk Try.prog (15, con15) := by
  intro args t h hp
  simp only [con15] at h
  split at h
  · cases h
    refine fn_ok envS4 tab_ok mixed Try.func15 (by kernel_rfl) (by kernel_rfl) ?_
    rw [f15_run]
    exact ⟨rfl, rfl⟩
  · cases h
def con36 : List AV → Option Tells
  | [.agg (.cons (.int .i64 y) (.cons (.list 3 (.int .i64) M) (.cons (.bool h) (.cons (.bool s) .nl))))] => some ⟨[s = false → M.length ≤ 9223372036854775807, s = false → M.length ≤ 9223372036854775807], AV.int IntKind.i64 (bif s then y else IntKind.i64.wrap (y + IntKind.i64.wrap (most M + least M))), []⟩
  | _ => none
theorem f36_run (R : AV → List Ob → Prop) (y : Int) (M : List Int) (h s : Bool) : fnA tab (envOf consS4) Try.f36 (bodyOf Try.f36) [.agg (.cons (.int .i64 y) (.cons (.list 3 (.int .i64) M) (.cons (.bool h) (.cons (.bool s) .nl))))] R = (bif s then R (AV.int IntKind.i64 y) [] else M.length ≤ 9223372036854775807 ∧ M.length ≤ 9223372036854775807 ∧ R (AV.int IntKind.i64 (IntKind.i64.wrap (y + IntKind.i64.wrap (most M + least M)))) []) := by kernel_rfl
theorem ok36 : ConOk Try.prog (36, con36) := by
  intro args t h hp
  simp only [con36] at h
  split at h
  · cases h
    refine fn_ok envS4 tab_ok mixed Try.func36 (by kernel_rfl) (by kernel_rfl) ?_
    rw [f36_run]
    exact cond_split (fun h0 => ⟨by simp only [h0, cond_true, cond_false], by first | rfl | simp only [h0, cond_true, cond_false]⟩) (fun h0 => ⟨hp _ (List.Mem.head _) h0, ⟨hp _ (List.Mem.tail _ (List.Mem.head _)) h0, ⟨by simp only [h0, cond_true, cond_false], by first | rfl | simp only [h0, cond_true, cond_false]⟩⟩⟩)
  · cases h
def con30 : List AV → Option Tells
  | [.agg (.cons (.int .i64 y) (.cons (.list 3 (.int .i64) M) (.cons (.bool h) (.cons (.bool s) .nl)))), .int .i64 x] => some ⟨[(0 + M.length) * 8 ≤ 140737488355328, (M.length + 1) * 8 ≤ 140737488355328], ((AV.int IntKind.i64 y).cons ((AV.row 0).cons ((AV.bool h).cons ((AV.bool s).cons AV.nl)))).agg, [Ob.row 3 (Ty.int IntKind.i64) (M ++ [x])]⟩
  | _ => none
theorem f30_run (R : AV → List Ob → Prop) (y x : Int) (M : List Int) (h s : Bool) : fnA tab (envOf consS4) Try.f30 (bodyOf Try.f30) [.agg (.cons (.int .i64 y) (.cons (.list 3 (.int .i64) M) (.cons (.bool h) (.cons (.bool s) .nl)))), .int .i64 x] R = ((0 + M.length) * 8 ≤ 140737488355328 ∧ (M.length + 1) * 8 ≤ 140737488355328 ∧ R ((AV.int IntKind.i64 y).cons ((AV.row 0).cons ((AV.bool h).cons ((AV.bool s).cons AV.nl)))).agg [Ob.row 3 (Ty.int IntKind.i64) (M ++ [x])]) := by kernel_rfl
theorem ok30 : ConOk Try.prog (30, con30) := by
  intro args t h hp
  simp only [con30] at h
  split at h
  · cases h
    refine fn_ok envS4 tab_ok mixed Try.func30 (by kernel_rfl) (by kernel_rfl) ?_
    rw [f30_run]
    exact ⟨hp _ (List.Mem.head _), ⟨hp _ (List.Mem.tail _ (List.Mem.head _)), ⟨rfl, rfl⟩⟩⟩
  · cases h
def con33 : List AV → Option Tells
  | [.int .i64 y, .int .i64 x] => some ⟨[], ((AV.int IntKind.i64 y).cons ((AV.row 0).cons ((AV.bool false).cons ((AV.bool false).cons AV.nl)))).agg, [Ob.row 3 (Ty.int IntKind.i64) [x]]⟩
  | _ => none
theorem f33_run (R : AV → List Ob → Prop) (y x : Int) : fnA tab (envOf consS4) Try.f33 (bodyOf Try.f33) [.int .i64 y, .int .i64 x] R = (R ((AV.int IntKind.i64 y).cons ((AV.row 0).cons ((AV.bool false).cons ((AV.bool false).cons AV.nl)))).agg [Ob.row 3 (Ty.int IntKind.i64) [x]]) := by kernel_rfl
theorem ok33 : ConOk Try.prog (33, con33) := by
  intro args t h hp
  simp only [con33] at h
  split at h
  · cases h
    refine fn_ok envS4 tab_ok mixed Try.func33 (by kernel_rfl) (by kernel_rfl) ?_
    rw [f33_run]
    exact ⟨rfl, rfl⟩
  · cases h
def con34 : List AV → Option Tells
  | [.int .i64 y, .int .i64 x] => some ⟨[], ((AV.int IntKind.i64 y).cons ((AV.row 0).cons ((AV.bool false).cons ((AV.bool true).cons AV.nl)))).agg, [Ob.row 3 (Ty.int IntKind.i64) [x]]⟩
  | _ => none
theorem f34_run (R : AV → List Ob → Prop) (y x : Int) : fnA tab (envOf consS4) Try.f34 (bodyOf Try.f34) [.int .i64 y, .int .i64 x] R = (R ((AV.int IntKind.i64 y).cons ((AV.row 0).cons ((AV.bool false).cons ((AV.bool true).cons AV.nl)))).agg [Ob.row 3 (Ty.int IntKind.i64) [x]]) := by kernel_rfl
theorem ok34 : ConOk Try.prog (34, con34) := by
  intro args t h hp
  simp only [con34] at h
  split at h
  · cases h
    refine fn_ok envS4 tab_ok mixed Try.func34 (by kernel_rfl) (by kernel_rfl) ?_
    rw [f34_run]
    exact ⟨rfl, rfl⟩
  · cases h
def con35 : List AV → Option Tells
  | [.agg (.cons (.int .i64 y) (.cons (.list 3 (.int .i64) M) (.cons (.bool h) (.cons (.bool s) .nl))))] => some ⟨[M.length ≤ 9223372036854775807, M.length ≤ 9223372036854775807], ((AV.int IntKind.i64 y).cons ((AV.int IntKind.i64 (most M)).cons ((AV.int IntKind.i64 (least M)).cons ((AV.bool h).cons ((AV.bool s).cons AV.nl))))).agg, []⟩
  | _ => none
theorem f35_run (R : AV → List Ob → Prop) (y : Int) (M : List Int) (h s : Bool) : fnA tab (envOf consS4) Try.f35 (bodyOf Try.f35) [.agg (.cons (.int .i64 y) (.cons (.list 3 (.int .i64) M) (.cons (.bool h) (.cons (.bool s) .nl))))] R = (M.length ≤ 9223372036854775807 ∧ M.length ≤ 9223372036854775807 ∧ R ((AV.int IntKind.i64 y).cons ((AV.int IntKind.i64 (most M)).cons ((AV.int IntKind.i64 (least M)).cons ((AV.bool h).cons ((AV.bool s).cons AV.nl))))).agg []) := by kernel_rfl
theorem ok35 : ConOk Try.prog (35, con35) := by
  intro args t h hp
  simp only [con35] at h
  split at h
  · cases h
    refine fn_ok envS4 tab_ok mixed Try.func35 (by kernel_rfl) (by kernel_rfl) ?_
    rw [f35_run]
    exact ⟨hp _ (List.Mem.head _), ⟨hp _ (List.Mem.tail _ (List.Mem.head _)), ⟨rfl, rfl⟩⟩⟩
  · cases h
def consS5 : Cons := (20, con20) :: (15, con15) :: (36, con36) :: (30, con30) :: (33, con33) :: (34, con34) :: (35, con35) :: consS4
theorem allS5 : ∀ c ∈ consS5, ConOk Try.prog c := all_cons ok20 (all_cons ok15 (all_cons ok36 (all_cons ok30 (all_cons ok33 (all_cons ok34 (all_cons ok35 allS4))))))
theorem envS5 : EnvOk Try.prog (envOf consS5) := envOf_ok _ allS5
def con31 : List AV → Option Tells
  | [.agg (.cons (.int .i64 y) (.cons (.list 3 (.int .i64) M) (.cons (.bool h) (.cons (.bool s) .nl)))), .int .i64 x] => some ⟨[s = false → M.length ≤ 9223372036854775807, s = false → M.length ≤ 9223372036854775807], ((AV.int IntKind.i64 (IntKind.i64.wrap ((bif s then y else IntKind.i64.wrap (y + IntKind.i64.wrap (most M + least M))) + x))).cons ((AV.nils 3 (Ty.int IntKind.i64)).cons ((AV.bool false).cons ((AV.bool false).cons AV.nl)))).agg, []⟩
  | _ => none
theorem f31_run (R : AV → List Ob → Prop) (y x : Int) (M : List Int) (h s : Bool) : fnA tab (envOf consS5) Try.f31 (bodyOf Try.f31) [.agg (.cons (.int .i64 y) (.cons (.list 3 (.int .i64) M) (.cons (.bool h) (.cons (.bool s) .nl)))), .int .i64 x] R = ((s = false → M.length ≤ 9223372036854775807) ∧ (s = false → M.length ≤ 9223372036854775807) ∧ R ((AV.int IntKind.i64 (IntKind.i64.wrap ((bif s then y else IntKind.i64.wrap (y + IntKind.i64.wrap (most M + least M))) + x))).cons ((AV.nils 3 (Ty.int IntKind.i64)).cons ((AV.bool false).cons ((AV.bool false).cons AV.nl)))).agg []) := by kernel_rfl
theorem ok31 : ConOk Try.prog (31, con31) := by
  intro args t h hp
  simp only [con31] at h
  split at h
  · cases h
    refine fn_ok envS5 tab_ok mixed Try.func31 (by kernel_rfl) (by kernel_rfl) ?_
    rw [f31_run]
    exact ⟨hp _ (List.Mem.head _), ⟨hp _ (List.Mem.tail _ (List.Mem.head _)), ⟨rfl, rfl⟩⟩⟩
  · cases h
def con32 : List AV → Option Tells
  | [.agg (.cons (.int .i64 y) (.cons (.list 3 (.int .i64) M) (.cons (.bool h) (.cons (.bool s) .nl)))), .int .i64 x] => some ⟨[s = true → M.length ≤ 9223372036854775807, s = true → M.length ≤ 9223372036854775807, s = true → (0 + M.length) * 8 ≤ 140737488355328, s = true → (M.length + 1) * 8 ≤ 140737488355328, s = false → (0 + M.length) * 8 ≤ 140737488355328, s = false → (M.length + 1) * 8 ≤ 140737488355328], ((AV.int IntKind.i64 (bif s then IntKind.i64.wrap (y - IntKind.i64.wrap (most M + least M)) else y)).cons ((AV.row 0).cons ((AV.bool (bif s then true else h)).cons ((AV.bool (bif s then false else s)).cons AV.nl)))).agg, [Ob.row 3 (Ty.int IntKind.i64) (M ++ [x])]⟩
  | _ => none
theorem f32_run (R : AV → List Ob → Prop) (y x : Int) (M : List Int) (h s : Bool) : fnA tab (envOf consS5) Try.f32 (bodyOf Try.f32) [.agg (.cons (.int .i64 y) (.cons (.list 3 (.int .i64) M) (.cons (.bool h) (.cons (.bool s) .nl)))), .int .i64 x] R = (bif s then M.length ≤ 9223372036854775807 ∧ M.length ≤ 9223372036854775807 ∧ (0 + M.length) * 8 ≤ 140737488355328 ∧ (M.length + 1) * 8 ≤ 140737488355328 ∧ R ((AV.int IntKind.i64 (IntKind.i64.wrap (y - IntKind.i64.wrap (most M + least M)))).cons ((AV.row 0).cons ((AV.bool true).cons ((AV.bool false).cons AV.nl)))).agg [Ob.row 3 (Ty.int IntKind.i64) (M ++ [x])] else (0 + M.length) * 8 ≤ 140737488355328 ∧ (M.length + 1) * 8 ≤ 140737488355328 ∧ R ((AV.int IntKind.i64 y).cons ((AV.row 0).cons ((AV.bool h).cons ((AV.bool s).cons AV.nl)))).agg [Ob.row 3 (Ty.int IntKind.i64) (M ++ [x])]) := by kernel_rfl
theorem ok32 : ConOk Try.prog (32, con32) := by
  intro args t h hp
  simp only [con32] at h
  split at h
  · cases h
    refine fn_ok envS5 tab_ok mixed Try.func32 (by kernel_rfl) (by kernel_rfl) ?_
    rw [f32_run]
    exact cond_split (fun h0 => ⟨hp _ (List.Mem.head _) h0, ⟨hp _ (List.Mem.tail _ (List.Mem.head _)) h0, ⟨hp _ (List.Mem.tail _ (List.Mem.tail _ (List.Mem.head _))) h0, ⟨hp _ (List.Mem.tail _ (List.Mem.tail _ (List.Mem.tail _ (List.Mem.head _)))) h0, ⟨by simp only [h0, cond_true, cond_false], by first | rfl | simp only [h0, cond_true, cond_false]⟩⟩⟩⟩⟩) (fun h0 => ⟨hp _ (List.Mem.tail _ (List.Mem.tail _ (List.Mem.tail _ (List.Mem.tail _ (List.Mem.head _))))) h0, ⟨hp _ (List.Mem.tail _ (List.Mem.tail _ (List.Mem.tail _ (List.Mem.tail _ (List.Mem.tail _ (List.Mem.head _)))))) h0, ⟨by simp only [h0, cond_true, cond_false], by first | rfl | simp only [h0, cond_true, cond_false]⟩⟩⟩)
  · cases h
def consS6 : Cons := (31, con31) :: (32, con32) :: consS5
theorem allS6 : ∀ c ∈ consS6, ConOk Try.prog c := all_cons ok31 (all_cons ok32 allS5)
theorem envS6 : EnvOk Try.prog (envOf consS6) := envOf_ok _ allS6

end Go.Proofs.Ytjhhkfjabaojhaa.W
