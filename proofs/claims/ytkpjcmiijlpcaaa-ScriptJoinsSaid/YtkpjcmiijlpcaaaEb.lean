/- The laws ScriptCounts, ScriptJoins and ScriptLong. -/
import Derived.Test.YtkpjcmiijlpcaaaWa
import Derived.Test.YtkpjcmiijlpcaaaEa
import Derived.Test.YtkpjcmiijlpcaaaAwAD
import Derived.Test.YtkpjcmiijlpcaaaAwZ
import Derived.KernelRfl
set_option linter.unusedVariables false
set_option linter.unusedSimpArgs false
namespace Go.Proofs.Ytkpjcmiijlpcaaa.W
open Go Go.Proofs Go.Proofs.Ytkpjcmiijlpcaaa.Aw
def consS3 : Cons := (8, con8) :: consS2
def twosS3 : Cons2 := twosS2
def pansS3 : Cons3 := pansS2
def itersS3 : Cons4 := itersS2
abbrev eS3 : Env := envOf4 consS3 twosS3 pansS3 itersS3
theorem allconsS3 : ∀ c ∈ consS3, ConOk Try.prog c := all_cons ok8 allconsS2
theorem alltwosS3 : ∀ c ∈ twosS3, ConOk2 Try.prog c := alltwosS2
theorem allpansS3 : ∀ c ∈ pansS3, ConOk3 Try.prog c := allpansS2
theorem allitersS3 : ∀ c ∈ itersS3, ConOk4 Try.prog c := allitersS2
theorem envS3 : EnvOk Try.prog eS3 := envOf4_ok _ _ _ _ allconsS3 alltwosS3 allpansS3 allitersS3
def con7 : List AV → Option Tells
  | [] => some ⟨[], AV.bool true, []⟩
  | _ => none
theorem f7_run (R : AV → List Ob → Prop)  : fnA tab eS3 Try.f7 (bodyOf Try.f7) [] R = (Nat.le 0 9223372036854775807 ∧ Nat.le 1 65536 ∧ R (AV.bool true) []) := by kernel_rfl
theorem ok7 : ConOk Try.prog (7, con7) := by
  intro args t h hp
  simp only [con7] at h
  split at h
  · cases h
    refine fn_ok envS3 tab_ok mixed Try.func7 (by kernel_rfl) (by kernel_rfl) ?_
    rw [f7_run]
    exact ⟨Nat.le_of_ble_eq_true rfl, ⟨Nat.le_of_ble_eq_true rfl, ⟨rfl, rfl⟩⟩⟩
  · cases h
def cntM (xs : List Bx) : List (Int × Int) := xs.foldl (fun m b => mPut b.2.1 (mGet b.2.1 0 m + 1) m) []
theorem cnt_next (xs : List Bx) (k : Nat) (h : k < xs.length) : cntM (xs.take (k + 1)) = mPut (xs.getD (k : Int).toNat (0, 0, 0, 0, 0, 0, (0, 0, 0, 0), 0, 0, 0, 0)).2.1 (mGet (xs.getD (k : Int).toNat (0, 0, 0, 0, 0, 0, (0, 0, 0, 0), 0, 0, 0, 0)).2.1 0 (cntM (xs.take k)) + 1) (cntM (xs.take k)) := by
  rw [take_nextB xs k h, cntM, List.foldl_append]
  rfl
theorem cnt_getF (k : Int) : ∀ (xs : List Bx) (m : List (Int × Int)), mGet k 0 (xs.foldl (fun m b => mPut b.2.1 (mGet b.2.1 0 m + 1) m) m) = mGet k 0 m + (xs.countP fun b => b.2.1 == k : Nat)
  | [], m => by simp
  | b :: xs, m => by
    rw [List.foldl_cons, cnt_getF k xs, mGet_put, List.countP_cons]
    by_cases h : k = b.2.1
    · rw [if_pos h, if_pos (by simp [h]), h]; push_cast; omega
    · rw [if_neg h, if_neg (by simpa using fun e : b.2.1 = k => h e.symm)]; rfl
theorem cnt_get (xs : List Bx) (k : Int) : mGet k 0 (cntM xs) = (xs.countP fun b => b.2.1 == k : Nat) := by
  rw [cntM, cnt_getF]
  simp [mGet, mIdx]
theorem cnt_keysF : ∀ (xs : List Bx) (m : List (Int × Int)), (m.map (·.1)).Nodup → ((xs.foldl (fun m b => mPut b.2.1 (mGet b.2.1 0 m + 1) m) m).map (·.1)).Nodup ∧ ∀ k, k ∈ (xs.foldl (fun m b => mPut b.2.1 (mGet b.2.1 0 m + 1) m) m).map (·.1) ↔ k ∈ m.map (·.1) ∨ k ∈ xs.map fun b => b.2.1
  | [], m, h => ⟨h, fun k => by simp⟩
  | b :: xs, m, h => by
    obtain ⟨h1, h2⟩ := cnt_keysF xs (mPut b.2.1 (mGet b.2.1 0 m + 1) m) (mPut_nodup h)
    refine ⟨h1, fun k => ?_⟩
    rw [List.foldl_cons, h2 k, mPut_mem, List.map_cons, List.mem_cons]
    constructor
    · rintro ((h | h) | h)
      · exact .inr (.inl h)
      · exact .inl h
      · exact .inr (.inr h)
    · rintro (h | h | h)
      · exact .inl (.inr h)
      · exact .inl (.inl h)
      · exact .inr h
theorem cnt_nodup (xs : List Bx) : ((cntM xs).map (·.1)).Nodup := (cnt_keysF xs [] (by simp)).1
theorem cnt_keys (xs : List Bx) (k : Int) : k ∈ (cntM xs).map (·.1) ↔ k ∈ xs.map fun b => b.2.1 := by
  rw [cntM, (cnt_keysF xs [] (by simp)).2 k]
  simp
theorem sum_set : ∀ (m : List (Int × Int)) (i : Nat) (h : i < m.length) (k x : Int), ((m.set i (k, x)).map (·.2)).sum = (m.map (·.2)).sum - m[i].2 + x
  | p :: m, 0, _, k, x => by simp; omega
  | p :: m, i + 1, h, k, x => by
    have := sum_set m i (by simpa using h) k x
    simp only [List.set_cons_succ, List.map_cons, List.sum_cons, this, List.getElem_cons_succ]
    omega
theorem sum_put (k x : Int) (m : List (Int × Int)) : ((mPut k x m).map (·.2)).sum = (m.map (·.2)).sum - mGet k 0 m + x := by
  by_cases h : mIdx k m < m.length
  · rw [mPut_yes h, sum_set m _ h]
    unfold mGet
    rw [List.getElem?_eq_getElem h]
    rfl
  · rw [mPut_no h, mGet_none fun hc => h (mIdx_lt.2 hc)]
    simp
theorem cnt_sumF : ∀ (xs : List Bx) (m : List (Int × Int)), ((xs.foldl (fun m b => mPut b.2.1 (mGet b.2.1 0 m + 1) m) m).map (·.2)).sum = (m.map (·.2)).sum + xs.length
  | [], m => by simp
  | b :: xs, m => by
    rw [List.foldl_cons, cnt_sumF xs, sum_put, List.length_cons]
    push_cast
    omega
theorem cnt_sum (xs : List Bx) : ((cntM xs).map (·.2)).sum = xs.length := by
  rw [cntM, cnt_sumF]
  simp
theorem cnt_at (xs : List Bx) (j : Nat) (h : j < (cntM xs).length) : ((cntM xs).getD j (0, 0)).2 = (xs.countP fun b => b.2.1 == ((cntM xs).getD j (0, 0)).1 : Nat) ∧ 1 ≤ ((cntM xs).getD j (0, 0)).2 := by
  have hp := List.getElem?_eq_getElem h
  have hd : (cntM xs).getD j (0, 0) = (cntM xs)[j] := getD_nat' _ _ j h
  have h1 := mGet_at (cnt_nodup xs) 0 hp
  rw [cnt_get] at h1
  rw [hd]
  refine ⟨h1.symm, ?_⟩
  rw [← h1]
  have hk : (cntM xs)[j].1 ∈ xs.map fun b => b.2.1 := (cnt_keys xs _).1 (List.mem_map.2 ⟨_, List.getElem_mem h, rfl⟩)
  obtain ⟨b, hb, e⟩ := List.mem_map.1 hk
  have : 0 < xs.countP fun b => b.2.1 == (cntM xs)[j].1 := List.countP_pos_iff.2 ⟨b, hb, by simp [e]⟩
  omega
theorem cnt_len (xs : List Bx) : (cntM xs).length ≤ xs.length := by
  have h := sub_length (l := (cntM xs).map (·.1)) (m := xs.map fun b => b.2.1) (cnt_nodup xs) fun k hk => (cnt_keys xs k).1 hk
  simpa using h
def con9 : List AV → Option Tells
  | [.list 50 (.pair (.int .i64) (.pair (.int .i64) (.pair (.int .i64) (.pair (.int .i64) (.pair (.int .i64) (.pair (.int .i64) (.pair (.pair (.int .i64) (.pair (.int .i64) (.pair (.int .i64) (.int .i64)))) (.pair (.int .i64) (.pair (.int .i64) (.pair (.int .i64) (.int .i64))))))))))) xs] => some ⟨[xs.length ≤ 65536], .mp 0, [.map false (.int .i64) (cntM xs)]⟩
  | _ => none
def f9_live1 : List Nat := [9, 8, 7, 9, 3, 9, 3, 2]
def f9_head1 (xs : List TB.den) (s9 : Int) (o0 : List (Int × Int)) : St := { slots := [AV.undef, AV.undef, AV.undef, AV.mp 0, AV.undef, AV.undef, AV.undef, AV.list 50 ((Ty.int IntKind.i64).pair ((Ty.int IntKind.i64).pair ((Ty.int IntKind.i64).pair ((Ty.int IntKind.i64).pair ((Ty.int IntKind.i64).pair ((Ty.int IntKind.i64).pair (((Ty.int IntKind.i64).pair ((Ty.int IntKind.i64).pair ((Ty.int IntKind.i64).pair (Ty.int IntKind.i64)))).pair ((Ty.int IntKind.i64).pair ((Ty.int IntKind.i64).pair ((Ty.int IntKind.i64).pair (Ty.int IntKind.i64))))))))))) xs, AV.int IntKind.i64 (↑xs.length : Int), AV.int IntKind.i64 s9] ++ List.replicate 10 AV.undef, obs := [Ob.map false (Ty.int IntKind.i64) o0] }
def f9_q1 (R : AV → List Ob → Prop) : Ex → St → Prop := blockA 0 (seqQ tab eS3 (subC [1, 1, 1] (bodyOf Try.f9)) [2] (endA tab Try.f9 R))
def f9_loop1 (R : AV → List Ob → Prop) (xs : List TB.den) (s9 : Int) (o0 : List (Int × Int)) : Prop := loopT f9_live1 (codeA tab eS3 (subC [1, 1, 0, 1, 0, 0] (bodyOf Try.f9)) f9_live1) (f9_head1 xs s9 o0) (f9_q1 R)
def f9_rhs1 (R : AV → List Ob → Prop) (xs : List TB.den) (J : St → Prop) (s9 : Int) (o0 : List (Int × Int)) : Prop := bif decide (s9 < (↑xs.length : Int)) then 0 ≤ s9 ∧ s9 < (↑xs.length : Int) ∧ J (f9_head1 xs (IntKind.i64.wrap (s9 + 1)) (mPut (xs.getD s9.toNat (0, 0, 0, 0, 0, 0, (0, 0, 0, 0), 0, 0, 0, 0)).snd.fst (IntKind.i64.wrap (mGet (xs.getD s9.toNat (0, 0, 0, 0, 0, 0, (0, 0, 0, 0), 0, 0, 0, 0)).snd.fst 0 o0 + 1)) o0)) else R (AV.mp 0) [Ob.map false (Ty.int IntKind.i64) o0]
theorem f9_eq1 (R : AV → List Ob → Prop) (xs : List TB.den) (J : St → Prop) (s9 : Int) (o0 : List (Int × Int)) : codeA tab eS3 (subC [1, 1, 0, 1, 0, 0] (bodyOf Try.f9)) f9_live1 (f9_head1 xs s9 o0) (thenA (fun s => J (St.tidy f9_live1 s)) (f9_q1 R)) = f9_rhs1 R xs J s9 o0 := by kernel_rfl
theorem f9_rule1 (R : AV → List Ob → Prop) (xs : List TB.den) (I : Nat → (Int) → (List (Int × Int)) → Prop) (n : Nat) (s9 : Int) (o0 : List (Int × Int)) (h0 : I n s9 o0) (h : ∀ n, ∀ (s9 : Int) (o0 : List (Int × Int)), I n s9 o0 → f9_rhs1 R xs (fun t => ∃ m, m < n ∧ ∃ (s9 : Int) (o0 : List (Int × Int)), t = f9_head1 xs s9 o0 ∧ I m s9 o0) s9 o0) : f9_loop1 R xs s9 o0 :=
  loop_intro (fun n t => ∃ (s9 : Int) (o0 : List (Int × Int)), t = f9_head1 xs s9 o0 ∧ I n s9 o0) n ⟨s9, o0, rfl, h0⟩ (fun n t ht => by obtain ⟨s9, o0, rfl, hI⟩ := ht; exact Eq.mpr (f9_eq1 R xs (fun t => ∃ m, m < n ∧ ∃ (s9 : Int) (o0 : List (Int × Int)), t = f9_head1 xs s9 o0 ∧ I m s9 o0) s9 o0) (h n s9 o0 hI))
theorem f9_run (R : AV → List Ob → Prop) (xs : List TB.den) : fnA tab eS3 Try.f9 (bodyOf Try.f9) [.list 50 TB xs] R = (f9_loop1 R xs 0 []) := by kernel_rfl
theorem ok9 : ConOk Try.prog (9, con9) := by
  intro args t h hp
  simp only [con9] at h
  split at h
  · rename_i xs
    change List TB.den at xs
    cases h
    refine fn_ok envS3 tab_ok mixed Try.func9 (by kernel_rfl) (by kernel_rfl) ?_
    rw [f9_run]
    try dsimp only
    have hx := hp (xs.length ≤ 65536) (by simp)
    refine f9_rule1 _ xs (fun n i m => ∃ k : Nat, k ≤ xs.length ∧ n = xs.length - k ∧ i = k ∧ m = cntM (xs.take k)) xs.length 0 [] ⟨0, by omega, by simp, rfl, by simp [cntM]⟩ ?_
    rintro n i m ⟨k, hk, rfl, rfl, rfl⟩
    unfold f9_rhs1
    refine dec_split (fun hlt => ⟨by omega, hlt, ?_⟩) (fun hlt => ?_)
    · have hlt' : k < xs.length := by omega
      have hn := cnt_next xs k hlt'
      have hb := cnt_get (xs.take k) (xs.getD (k : Int).toNat (0, 0, 0, 0, 0, 0, (0, 0, 0, 0), 0, 0, 0, 0)).2.1
      have hl := List.countP_le_length (p := fun b : Bx => b.2.1 == (xs.getD (k : Int).toNat (0, 0, 0, 0, 0, 0, (0, 0, 0, 0), 0, 0, 0, 0)).2.1) (l := xs.take k)
      rw [List.length_take] at hl
      exact ⟨xs.length - (k + 1), by omega, _, _, rfl, k + 1, by omega, rfl, wrap_next k _ hlt' (by simp only [maxLen]; omega), by rw [hn, wrap_id _ (by omega)]⟩
    · rw [take_all xs k (by omega)]
      exact ⟨rfl, rfl⟩
  · cases h
def consS4 : Cons := (7, con7) :: (9, con9) :: consS3
def twosS4 : Cons2 := twosS3
def pansS4 : Cons3 := pansS3
def itersS4 : Cons4 := itersS3
abbrev eS4 : Env := envOf4 consS4 twosS4 pansS4 itersS4
theorem allconsS4 : ∀ c ∈ consS4, ConOk Try.prog c := all_cons ok7 (all_cons ok9 allconsS3)
theorem alltwosS4 : ∀ c ∈ twosS4, ConOk2 Try.prog c := alltwosS3
theorem allpansS4 : ∀ c ∈ pansS4, ConOk3 Try.prog c := allpansS3
theorem allitersS4 : ∀ c ∈ itersS4, ConOk4 Try.prog c := allitersS3
theorem envS4 : EnvOk Try.prog eS4 := envOf4_ok _ _ _ _ allconsS4 alltwosS4 allpansS4 allitersS4
def f4_live1 : List Nat := [22, 22, 0, 4, 4, 0, 2]
def f4_head1 (xs : List TB.den) (s4 : Int) (o0_1 : List Nat) (o0_2 : Nat) : St := { slots := [AV.list 35 ((Ty.int IntKind.i64).pair ((Ty.int IntKind.i64).pair ((Ty.int IntKind.i64).pair ((Ty.int IntKind.i64).pair ((Ty.int IntKind.i64).pair ((Ty.int IntKind.i64).pair (((Ty.int IntKind.i64).pair ((Ty.int IntKind.i64).pair ((Ty.int IntKind.i64).pair (Ty.int IntKind.i64)))).pair ((Ty.int IntKind.i64).pair ((Ty.int IntKind.i64).pair ((Ty.int IntKind.i64).pair (Ty.int IntKind.i64))))))))))) xs, AV.undef, AV.bool false, AV.undef, AV.int IntKind.i64 s4] ++ List.replicate 17 AV.undef ++ [AV.itr 0] ++ List.replicate 32 AV.undef, obs := [Ob.mit 1 (cntM xs).length o0_1 o0_2, Ob.map false (Ty.int IntKind.i64) (cntM xs)] }
def f4_q1 (R : AV → List Ob → Prop) : Ex → St → Prop := blockA 0 (seqQ tab eS4 (subC [1, 1, 1, 1, 1] (bodyOf Try.f4)) [2] (endA tab Try.f4 R))
def f4_loop1 (R : AV → List Ob → Prop) (xs : List TB.den) (s4 : Int) (o0_1 : List Nat) (o0_2 : Nat) : Prop := loopT f4_live1 (codeA tab eS4 (subC [1, 1, 1, 1, 0, 1, 0, 0] (bodyOf Try.f4)) f4_live1) (f4_head1 xs s4 o0_1 o0_2) (f4_q1 R)
def f4_live2 : List Nat := [30, 29, 28, 30, 5, 7, 30, 7, 6, 6, 4, 6, 22, 22, 0, 4, 4, 0, 2]
def f4_head2 (xs : List TB.den) (s4 : Int) (o0_1 : List Nat) (j : Nat) (s7' : Int) (s30' : Int) : St := { slots := [AV.list 35 ((Ty.int IntKind.i64).pair ((Ty.int IntKind.i64).pair ((Ty.int IntKind.i64).pair ((Ty.int IntKind.i64).pair ((Ty.int IntKind.i64).pair ((Ty.int IntKind.i64).pair (((Ty.int IntKind.i64).pair ((Ty.int IntKind.i64).pair ((Ty.int IntKind.i64).pair (Ty.int IntKind.i64)))).pair ((Ty.int IntKind.i64).pair ((Ty.int IntKind.i64).pair ((Ty.int IntKind.i64).pair (Ty.int IntKind.i64))))))))))) xs, AV.undef, AV.bool false, AV.undef, AV.int IntKind.i64 s4, AV.int IntKind.i64 ((cntM xs).getD j (0, 0)).fst, AV.int IntKind.i64 ((cntM xs).getD j (0, 0)).snd, AV.int IntKind.i64 s7'] ++ List.replicate 14 AV.undef ++ [AV.itr 0] ++ List.replicate 5 AV.undef ++ [AV.list 35 ((Ty.int IntKind.i64).pair ((Ty.int IntKind.i64).pair ((Ty.int IntKind.i64).pair ((Ty.int IntKind.i64).pair ((Ty.int IntKind.i64).pair ((Ty.int IntKind.i64).pair (((Ty.int IntKind.i64).pair ((Ty.int IntKind.i64).pair ((Ty.int IntKind.i64).pair (Ty.int IntKind.i64)))).pair ((Ty.int IntKind.i64).pair ((Ty.int IntKind.i64).pair ((Ty.int IntKind.i64).pair (Ty.int IntKind.i64))))))))))) xs, AV.int IntKind.i64 (↑xs.length : Int), AV.int IntKind.i64 s30'] ++ List.replicate 24 AV.undef, obs := [Ob.mit 1 (cntM xs).length (o0_1 ++ [j]) j, Ob.map false (Ty.int IntKind.i64) (cntM xs)] }
def f4_q2 (R : AV → List Ob → Prop) (J : St → Prop) : Ex → St → Prop := blockA 2 (seqQ tab eS4 (subC [1, 1, 1, 1, 0, 1, 0, 0, 1, 1, 0, 1, 1, 1] (bodyOf Try.f4)) [22, 22, 0, 4, 4, 0, 2] (blockA 1 (thenA (fun s => J (St.tidy f4_live1 s)) (blockA 0 (seqQ tab eS4 (subC [1, 1, 1, 1, 1] (bodyOf Try.f4)) [2] (endA tab Try.f4 R))))))
def f4_loop2 (R : AV → List Ob → Prop) (xs : List TB.den) (s4 : Int) (o0_1 : List Nat) (J : St → Prop) (j : Nat) (s7' : Int) (s30' : Int) : Prop := loopT f4_live2 (codeA tab eS4 (subC [1, 1, 1, 1, 0, 1, 0, 0, 1, 1, 0, 1, 1, 0, 1, 0, 0] (bodyOf Try.f4)) f4_live2) (f4_head2 xs s4 o0_1 j s7' s30') (f4_q2 R J)
def f4_rhs2 (R : AV → List Ob → Prop) (xs : List TB.den) (s4 : Int) (o0_1 : List Nat) (J : St → Prop) (j : Nat) (J1 : St → Prop) (s7' : Int) (s30' : Int) : Prop := bif decide (s30' < (↑xs.length : Int)) then 0 ≤ s30' ∧ s30' < (↑xs.length : Int) ∧ bif (xs.getD s30'.toNat (0, 0, 0, 0, 0, 0, (0, 0, 0, 0), 0, 0, 0, 0)).snd.fst == ((cntM xs).getD j (0, 0)).fst then J1 (f4_head2 xs s4 o0_1 j (IntKind.i64.wrap (s7' + 1)) (IntKind.i64.wrap (s30' + 1))) else J1 (f4_head2 xs s4 o0_1 j s7' (IntKind.i64.wrap (s30' + 1))) else bif !s7' != ((cntM xs).getD j (0, 0)).snd then bif decide (((cntM xs).getD j (0, 0)).snd < 1) then R (AV.bool false) [] else J (f4_head1 xs (IntKind.i64.wrap (s4 + ((cntM xs).getD j (0, 0)).snd)) (o0_1 ++ [j]) j) else R (AV.bool false) []
theorem f4_eq2 (R : AV → List Ob → Prop) (xs : List TB.den) (s4 : Int) (o0_1 : List Nat) (J : St → Prop) (j : Nat) (J1 : St → Prop) (s7' : Int) (s30' : Int) : codeA tab eS4 (subC [1, 1, 1, 1, 0, 1, 0, 0, 1, 1, 0, 1, 1, 0, 1, 0, 0] (bodyOf Try.f4)) f4_live2 (f4_head2 xs s4 o0_1 j s7' s30') (thenA (fun s => J1 (St.tidy f4_live2 s)) (f4_q2 R J)) = f4_rhs2 R xs s4 o0_1 J j J1 s7' s30' := by kernel_rfl
theorem f4_rule2 (R : AV → List Ob → Prop) (xs : List TB.den) (s4 : Int) (o0_1 : List Nat) (J : St → Prop) (j : Nat) (I : Nat → (Int) → (Int) → Prop) (n : Nat) (s7' : Int) (s30' : Int) (h0 : I n s7' s30') (h : ∀ n, ∀ (s7' : Int) (s30' : Int), I n s7' s30' → f4_rhs2 R xs s4 o0_1 J j (fun t => ∃ m, m < n ∧ ∃ (s7' : Int) (s30' : Int), t = f4_head2 xs s4 o0_1 j s7' s30' ∧ I m s7' s30') s7' s30') : f4_loop2 R xs s4 o0_1 J j s7' s30' :=
  loop_intro (fun n t => ∃ (s7' : Int) (s30' : Int), t = f4_head2 xs s4 o0_1 j s7' s30' ∧ I n s7' s30') n ⟨s7', s30', rfl, h0⟩ (fun n t ht => by obtain ⟨s7', s30', rfl, hI⟩ := ht; exact Eq.mpr (f4_eq2 R xs s4 o0_1 J j (fun t => ∃ m, m < n ∧ ∃ (s7' : Int) (s30' : Int), t = f4_head2 xs s4 o0_1 j s7' s30' ∧ I m s7' s30') s7' s30') (h n s7' s30' hI))
def f4_rhs1 (R : AV → List Ob → Prop) (xs : List TB.den) (J : St → Prop) (s4 : Int) (o0_1 : List Nat) (o0_2 : Nat) : Prop := (cntM xs).length = (cntM xs).length ∧ (∀ (j : Nat), j < (cntM xs).length → ¬j ∈ o0_1 → (o0_1 ++ [j]).getLast? = some j ∧ (cntM xs).length = (cntM xs).length ∧ j < (cntM xs).length ∧ f4_loop2 R xs s4 o0_1 J j 0 0) ∧ ((∀ (j : Nat), j < (cntM xs).length → j ∈ o0_1) → R (AV.bool (s4 == (↑xs.length : Int))) [])
theorem f4_eq1 (R : AV → List Ob → Prop) (xs : List TB.den) (J : St → Prop) (s4 : Int) (o0_1 : List Nat) (o0_2 : Nat) : codeA tab eS4 (subC [1, 1, 1, 1, 0, 1, 0, 0] (bodyOf Try.f4)) f4_live1 (f4_head1 xs s4 o0_1 o0_2) (thenA (fun s => J (St.tidy f4_live1 s)) (f4_q1 R)) = f4_rhs1 R xs J s4 o0_1 o0_2 := by kernel_rfl
theorem f4_rule1 (R : AV → List Ob → Prop) (xs : List TB.den) (I : Nat → (Int) → (List Nat) → (Nat) → Prop) (n : Nat) (s4 : Int) (o0_1 : List Nat) (o0_2 : Nat) (h0 : I n s4 o0_1 o0_2) (h : ∀ n, ∀ (s4 : Int) (o0_1 : List Nat) (o0_2 : Nat), I n s4 o0_1 o0_2 → f4_rhs1 R xs (fun t => ∃ m, m < n ∧ ∃ (s4 : Int) (o0_1 : List Nat) (o0_2 : Nat), t = f4_head1 xs s4 o0_1 o0_2 ∧ I m s4 o0_1 o0_2) s4 o0_1 o0_2) : f4_loop1 R xs s4 o0_1 o0_2 :=
  loop_intro (fun n t => ∃ (s4 : Int) (o0_1 : List Nat) (o0_2 : Nat), t = f4_head1 xs s4 o0_1 o0_2 ∧ I n s4 o0_1 o0_2) n ⟨s4, o0_1, o0_2, rfl, h0⟩ (fun n t ht => by obtain ⟨s4, o0_1, o0_2, rfl, hI⟩ := ht; exact Eq.mpr (f4_eq1 R xs (fun t => ∃ m, m < n ∧ ∃ (s4 : Int) (o0_1 : List Nat) (o0_2 : Nat), t = f4_head1 xs s4 o0_1 o0_2 ∧ I m s4 o0_1 o0_2) s4 o0_1 o0_2) (h n s4 o0_1 o0_2 hI))
theorem f4_run (R : AV → List Ob → Prop) (xs : List TB.den) : fnA tab eS4 Try.f4 (bodyOf Try.f4) [.list 35 TB xs] R = (bif decide ((↑xs.length : Int) > 60) then R (AV.bool true) [] else xs.length ≤ 4096 ∧ xs.length ≤ 65536 ∧ f4_loop1 R xs 0 [] 0) := by kernel_rfl
def f5_live1 : List Nat := [76, 76, 9, 10, 11, 9, 11, 10, 4]
def f5_head1 (xs : List TB.den) (ys : List TB.den) (o3_1 : List Nat) (o3_2 : Nat) : St := { slots := List.replicate 4 AV.undef ++ [AV.bool false] ++ List.replicate 4 AV.undef ++ [AV.mp 0, AV.mp 1, AV.mp 2] ++ List.replicate 64 AV.undef ++ [AV.itr 3] ++ List.replicate 26 AV.undef, obs := [Ob.map false (Ty.int IntKind.i64) (cntM xs), Ob.map false (Ty.int IntKind.i64) (cntM ys), Ob.map false (Ty.int IntKind.i64) (cntM (datD (List.flatMap encB xs ++ List.flatMap encB ys))), Ob.mit 2 (cntM (datD (List.flatMap encB xs ++ List.flatMap encB ys))).length o3_1 o3_2] }
def f5_q1 (R : AV → List Ob → Prop) : Ex → St → Prop := blockA 0 (seqQ tab eS4 (subC [1, 1, 1, 1, 1, 1, 1, 1, 1] (bodyOf Try.f5)) [4] (endA tab Try.f5 R))
def f5_loop1 (R : AV → List Ob → Prop) (xs : List TB.den) (ys : List TB.den) (o3_1 : List Nat) (o3_2 : Nat) : Prop := loopT f5_live1 (codeA tab eS4 (subC [1, 1, 1, 1, 1, 1, 1, 1, 0, 1, 0, 0] (bodyOf Try.f5)) f5_live1) (f5_head1 xs ys o3_1 o3_2) (f5_q1 R)
def f5_rhs1 (R : AV → List Ob → Prop) (xs : List TB.den) (ys : List TB.den) (J : St → Prop) (o3_1 : List Nat) (o3_2 : Nat) : Prop := (cntM (datD (List.flatMap encB xs ++ List.flatMap encB ys))).length = (cntM (datD (List.flatMap encB xs ++ List.flatMap encB ys))).length ∧ (∀ (j : Nat), j < (cntM (datD (List.flatMap encB xs ++ List.flatMap encB ys))).length → ¬j ∈ o3_1 → (o3_1 ++ [j]).getLast? = some j ∧ (cntM (datD (List.flatMap encB xs ++ List.flatMap encB ys))).length = (cntM (datD (List.flatMap encB xs ++ List.flatMap encB ys))).length ∧ j < (cntM (datD (List.flatMap encB xs ++ List.flatMap encB ys))).length ∧ bif IntKind.i64.wrap (mGet ((cntM (datD (List.flatMap encB xs ++ List.flatMap encB ys))).getD j (0, 0)).fst 0 (cntM xs) + mGet ((cntM (datD (List.flatMap encB xs ++ List.flatMap encB ys))).getD j (0, 0)).fst 0 (cntM ys)) != ((cntM (datD (List.flatMap encB xs ++ List.flatMap encB ys))).getD j (0, 0)).snd then R (AV.bool false) [] else J (f5_head1 xs ys (o3_1 ++ [j]) j)) ∧ ((∀ (j : Nat), j < (cntM (datD (List.flatMap encB xs ++ List.flatMap encB ys))).length → j ∈ o3_1) → bif decide ((↑(cntM (datD (List.flatMap encB xs ++ List.flatMap encB ys))).length : Int) ≥ (↑(cntM xs).length : Int)) then R (AV.bool (decide ((↑(cntM (datD (List.flatMap encB xs ++ List.flatMap encB ys))).length : Int) ≥ (↑(cntM ys).length : Int)))) [] else R (AV.bool false) [])
theorem f5_eq1 (R : AV → List Ob → Prop) (xs : List TB.den) (ys : List TB.den) (J : St → Prop) (o3_1 : List Nat) (o3_2 : Nat) : codeA tab eS4 (subC [1, 1, 1, 1, 1, 1, 1, 1, 0, 1, 0, 0] (bodyOf Try.f5)) f5_live1 (f5_head1 xs ys o3_1 o3_2) (thenA (fun s => J (St.tidy f5_live1 s)) (f5_q1 R)) = f5_rhs1 R xs ys J o3_1 o3_2 := by kernel_rfl
theorem f5_rule1 (R : AV → List Ob → Prop) (xs : List TB.den) (ys : List TB.den) (I : Nat → (List Nat) → (Nat) → Prop) (n : Nat) (o3_1 : List Nat) (o3_2 : Nat) (h0 : I n o3_1 o3_2) (h : ∀ n, ∀ (o3_1 : List Nat) (o3_2 : Nat), I n o3_1 o3_2 → f5_rhs1 R xs ys (fun t => ∃ m, m < n ∧ ∃ (o3_1 : List Nat) (o3_2 : Nat), t = f5_head1 xs ys o3_1 o3_2 ∧ I m o3_1 o3_2) o3_1 o3_2) : f5_loop1 R xs ys o3_1 o3_2 :=
  loop_intro (fun n t => ∃ (o3_1 : List Nat) (o3_2 : Nat), t = f5_head1 xs ys o3_1 o3_2 ∧ I n o3_1 o3_2) n ⟨o3_1, o3_2, rfl, h0⟩ (fun n t ht => by obtain ⟨o3_1, o3_2, rfl, hI⟩ := ht; exact Eq.mpr (f5_eq1 R xs ys (fun t => ∃ m, m < n ∧ ∃ (o3_1 : List Nat) (o3_2 : Nat), t = f5_head1 xs ys o3_1 o3_2 ∧ I m o3_1 o3_2) o3_1 o3_2) (h n o3_1 o3_2 hI))
theorem f5_run (R : AV → List Ob → Prop) (xs ys : List TB.den) : fnA tab eS4 Try.f5 (bodyOf Try.f5) [.list 35 TB xs, .list 35 TB ys] R = (bif !decide ((↑xs.length : Int) > 40) then bif decide ((↑ys.length : Int) > 40) then R (AV.bool true) [] else (0 + xs.length) * 112 ≤ 140737488355328 ∧ (xs.length + ys.length) * 112 ≤ 140737488355328 ∧ xs.length ≤ 4096 ∧ xs.length ≤ 65536 ∧ ys.length ≤ 4096 ∧ ys.length ≤ 65536 ∧ ((List.flatMap encB xs).length + (List.flatMap encB ys).length) * 8 ≤ 140737488355328 ∧ (xs ++ ys).length ≤ 4096 ∧ (xs ++ ys).length ≤ 65536 ∧ (List.flatMap encB xs ++ List.flatMap encB ys).length ≤ 9223372036854775807 ∧ bif !!decide (List.flatMap encB xs ++ List.flatMap encB ys = List.flatMap encB (xs ++ ys)) then bif (↑(List.flatMap encB xs ++ List.flatMap encB ys).length : Int) != IntKind.i64.wrap (14 * (↑(xs ++ ys).length : Int)) then R (AV.bool false) [] else (List.flatMap encB xs ++ List.flatMap encB ys).length ≤ 9223372036854775807 ∧ bif !errD (List.flatMap encB xs ++ List.flatMap encB ys) != 0 then bif (↑(datD (List.flatMap encB xs ++ List.flatMap encB ys)).length : Int) != (↑(xs ++ ys).length : Int) then R (AV.bool false) [] else xs.length ≤ 4096 ∧ xs.length ≤ 65536 ∧ ys.length ≤ 4096 ∧ ys.length ≤ 65536 ∧ (datD (List.flatMap encB xs ++ List.flatMap encB ys)).length ≤ 65536 ∧ f5_loop1 R xs ys [] 0 else R (AV.bool false) [] else R (AV.bool false) [] else R (AV.bool true) []) := by kernel_rfl
theorem lawSC' (xs : List Bx) (hx : xs.length ≤ maxLen) : ACalls Try.prog 4 [.list 35 TB xs] (.bool true) [] := by
  refine fn_ok envS4 tab_ok mixed Try.func4 (by kernel_rfl) (by kernel_rfl) ?_
  rw [f4_run]
  refine dec_split (fun _ => ⟨rfl, rfl⟩) (fun h => ?_)
  have hlen : xs.length ≤ 60 := by omega
  refine ⟨by omega, by omega, ?_⟩
  have hcl := cnt_len xs
  refine f4_rule1 _ xs (fun n s seen _ => n = (restL (cntM xs).length seen).length ∧ 0 ≤ s ∧ s + ((restL (cntM xs).length seen).map fun i => ((cntM xs).getD i (0, 0)).2).sum = xs.length) _ 0 [] 0 ⟨rfl, by omega, ?_⟩ ?_
  · rw [restL_start, sum_range (cntM xs) (·.2) (0, 0), cnt_sum]; omega
  rintro n s seen c ⟨rfl, hs, hsum⟩
  unfold f4_rhs1
  refine ⟨rfl, fun j hj hjs => ⟨by simp, rfl, hj, ?_⟩, fun hall => ?_⟩
  · obtain ⟨hv1, hv2⟩ := cnt_at xs j hj
    have hr := restL_next hj hjs fun i => ((cntM xs).getD i (0, 0)).2
    refine f4_rule2 _ xs s seen _ j (fun n m i => ∃ k : Nat, k ≤ xs.length ∧ n = xs.length - k ∧ i = k ∧ m = ((xs.take k).countP fun b => b.2.1 == ((cntM xs).getD j (0, 0)).1 : Nat)) xs.length 0 0 ⟨0, by omega, by simp, rfl, by simp⟩ ?_
    rintro n m i ⟨k, hk, rfl, rfl, rfl⟩
    unfold f4_rhs2
    refine dec_split (fun hlt => ⟨by omega, hlt, ?_⟩) (fun hlt => ?_)
    · have hlt' : k < xs.length := by omega
      have hc : ((xs.take (k + 1)).countP fun b => b.2.1 == ((cntM xs).getD j (0, 0)).1) = (xs.take k).countP (fun b => b.2.1 == ((cntM xs).getD j (0, 0)).1) + if ((xs.getD (k : Int).toNat (0, 0, 0, 0, 0, 0, (0, 0, 0, 0), 0, 0, 0, 0)).2.1 == ((cntM xs).getD j (0, 0)).1) = true then 1 else 0 := by
        rw [take_nextB xs k hlt', List.countP_append, List.countP_singleton]
      have hl := List.countP_le_length (p := fun b : Bx => b.2.1 == ((cntM xs).getD j (0, 0)).1) (l := xs.take k)
      rw [List.length_take] at hl
      refine cond_split (fun hh => ?_) (fun hh => ?_)
      · rw [if_pos hh] at hc
        exact ⟨xs.length - (k + 1), by omega, _, _, rfl, k + 1, by omega, rfl, wrap_next k _ hlt' hx, by rw [hc, wrap_id _ (by omega)]; push_cast; rfl⟩
      · rw [if_neg (by rw [hh]; simp)] at hc
        exact ⟨xs.length - (k + 1), by omega, _, _, rfl, k + 1, by omega, rfl, wrap_next k _ hlt' hx, by rw [hc]; rfl⟩
    · rw [take_all xs k (by omega), ← hv1]
      refine cond_of (by simp) (dec_no (by omega) ?_)
      have hb : ((cntM xs).getD j (0, 0)).2 ≤ 60 := by
        rw [hv1]
        have := List.countP_le_length (p := fun b : Bx => b.2.1 == ((cntM xs).getD j (0, 0)).1) (l := xs)
        omega
      have hs2 : 0 ≤ ((restL (cntM xs).length (seen ++ [j])).map fun i => ((cntM xs).getD i (0, 0)).2).sum := by
        have : ∀ l : List Nat, (∀ i ∈ l, i < (cntM xs).length) → 0 ≤ (l.map fun i => ((cntM xs).getD i (0, 0)).2).sum := by
          intro l
          induction l with
          | nil => simp
          | cons i l ih =>
            intro hl
            have h1 := ih fun q hq => hl q (by simp [hq])
            have h2 := (cnt_at xs i (hl i (by simp))).2
            simp only [List.map_cons, List.sum_cons]
            omega
        exact this _ fun i hi => List.mem_range.1 (List.mem_filter.1 hi).1
      refine ⟨_, by omega, _, _, _, rfl, rfl, ?_, ?_⟩
      · rw [wrap_id _ (by omega)]; omega
      · rw [wrap_id _ (by omega)]; omega
  · rw [restL_end hall] at hsum
    simp only [List.map_nil, List.sum_nil, Int.add_zero] at hsum
    rw [hsum]
    exact ⟨by simp, rfl⟩
theorem law4 (x : ArgsDen [(false, .list 35 TB)]) (h : OkArgs [(false, .list 35 TB)] x) : ACalls Try.prog 4 (argsA [(false, .list 35 TB)] x) (.bool true) [] := lawSC' x.1 h.1.1
theorem flat_get : ∀ (xs : List Bx) (i j : Nat), i < xs.length → j < 14 → (xs.flatMap encB).getD (14 * i + j) 0 = (encB (xs.getD i (0, 0, 0, 0, 0, 0, (0, 0, 0, 0), 0, 0, 0, 0))).getD j 0
  | [], i, j, h, _ => by simp at h
  | x :: xs, 0, j, _, hj => by
    rw [List.flatMap_cons, List.getD, List.getElem?_append_left (by simp only [encB, List.length_cons, List.length_nil]; omega), Nat.mul_zero, Nat.zero_add]
    rfl
  | x :: xs, i + 1, j, h, hj => by
    have e : (encB x).length = 14 := rfl
    rw [List.flatMap_cons, List.getD, List.getElem?_append_right (by omega), e, show 14 * (i + 1) + j - 14 = 14 * i + j by omega]
    exact flat_get xs i j (by simpa using h) hj
theorem bx_flat (xs : List Bx) (i : Nat) (h : i < xs.length) : bxAt (xs.flatMap encB) i = xs.getD i (0, 0, 0, 0, 0, 0, (0, 0, 0, 0), 0, 0, 0, 0) := by
  have g := fun j hj => flat_get xs i j h hj
  have g0 := g 0 (by omega)
  rw [Nat.add_zero] at g0
  unfold bxAt
  rw [g0, g 1 (by omega), g 2 (by omega), g 3 (by omega), g 4 (by omega), g 5 (by omega), g 6 (by omega), g 7 (by omega), g 8 (by omega), g 9 (by omega), g 10 (by omega), g 11 (by omega), g 12 (by omega), g 13 (by omega)]
  rfl
theorem dec_enc (xs : List Bx) : decB (xs.flatMap encB) = xs := by
  unfold decB
  rw [flat_len, Nat.mul_div_cancel_left _ (by omega)]
  apply List.ext_getElem
  · simp
  · intro i h1 h2
    rw [List.getElem_map, List.getElem_range, bx_flat xs i h2, getD_nat' _ _ i h2]
theorem err_flat (xs : List Bx) (h : xs.length ≤ 60) : errD (xs.flatMap encB) = 0 := by
  have hf := flat_len xs
  unfold errD
  rw [if_neg (by omega), if_neg (by omega)]
theorem dat_flat (xs : List Bx) (h : xs.length ≤ 60) : datD (xs.flatMap encB) = xs := by
  have hf := flat_len xs
  unfold datD
  rw [if_neg (by omega), dec_enc]
theorem cnt_mono (xs zs : List Bx) (h : ∀ b ∈ xs, b ∈ zs) : (cntM xs).length ≤ (cntM zs).length := by
  have := sub_length (l := (cntM xs).map (·.1)) (m := (cntM zs).map (·.1)) (cnt_nodup xs) fun k hk => by
    rw [cnt_keys] at hk ⊢
    obtain ⟨b, hb, e⟩ := List.mem_map.1 hk
    exact List.mem_map.2 ⟨b, h b hb, e⟩
  simpa using this
theorem lawSJ' (xs ys : List Bx) (hx : xs.length ≤ maxLen) (hy : ys.length ≤ maxLen) : ACalls Try.prog 5 [.list 35 TB xs, .list 35 TB ys] (.bool true) [] := by
  refine fn_ok envS4 tab_ok mixed Try.func5 (by kernel_rfl) (by kernel_rfl) ?_
  rw [f5_run]
  refine ndec_split (fun h1 => dec_split (fun _ => ⟨rfl, rfl⟩) (fun h2 => ?_)) (fun _ => ⟨rfl, rfl⟩)
  have l1 : xs.length ≤ 40 := by omega
  have l2 : ys.length ≤ 40 := by omega
  have hl : (xs ++ ys).length = xs.length + ys.length := List.length_append
  have hd : ∀ zs : List Bx, zs.length ≤ 80 → datD (zs.flatMap encB) = zs ∧ errD (zs.flatMap encB) = 0 := fun zs hz => by
    have hf := flat_len zs
    unfold datD errD
    rw [if_neg (by omega), dec_enc, if_neg (by omega), if_neg (by omega)]
    exact ⟨rfl, rfl⟩
  obtain ⟨d1, d2⟩ := hd (xs ++ ys) (by omega)
  rw [← List.flatMap_append, d1, d2]
  have f1 := flat_len xs
  have f2 := flat_len ys
  have f3 := flat_len (xs ++ ys)
  refine ⟨by omega, by omega, by omega, by omega, by omega, by omega, by omega, by omega, by omega, by omega, cond_of (by simp) (cond_no ?_ ⟨by omega, cond_of (by simp) (cond_no (by simp) ⟨by omega, by omega, by omega, by omega, by omega, ?_⟩)⟩)⟩
  · rw [wrap_id _ (by omega), f3]; simp
  refine f5_rule1 _ xs ys (fun n seen _ => n = (restL (cntM (xs ++ ys)).length seen).length) _ [] 0 rfl ?_
  rintro n seen c rfl
  unfold f5_rhs1
  rw [← List.flatMap_append, d1]
  refine ⟨rfl, fun j hj hjs => ⟨by simp, rfl, hj, ?_⟩, fun _ => ?_⟩
  · obtain ⟨hv1, hv2⟩ := cnt_at (xs ++ ys) j hj
    have hr := (restL_next hj hjs fun _ => 0).2
    rw [cnt_get, cnt_get]
    have e1 := List.countP_append (p := fun b : Bx => b.2.1 == ((cntM (xs ++ ys)).getD j (0, 0)).1) (l₁ := xs) (l₂ := ys)
    have e2 := List.countP_le_length (p := fun b : Bx => b.2.1 == ((cntM (xs ++ ys)).getD j (0, 0)).1) (l := xs)
    have e3 := List.countP_le_length (p := fun b : Bx => b.2.1 == ((cntM (xs ++ ys)).getD j (0, 0)).1) (l := ys)
    rw [wrap_id _ (by omega)]
    refine cond_no (by rw [hv1, e1]; push_cast; simp) ⟨_, by omega, _, _, rfl, rfl⟩
  · have m1 := cnt_mono xs (xs ++ ys) fun b hb => List.mem_append_left _ hb
    have m2 := cnt_mono ys (xs ++ ys) fun b hb => List.mem_append_right _ hb
    refine dec_yes (by omega) ⟨?_, rfl⟩
    rw [decide_eq_true (by omega)]
theorem law5 (x : ArgsDen [(false, .list 35 TB), (false, .list 35 TB)]) (h : OkArgs [(false, .list 35 TB), (false, .list 35 TB)] x) : ACalls Try.prog 5 (argsA [(false, .list 35 TB), (false, .list 35 TB)] x) (.bool true) [] := lawSJ' x.1 x.2.1 h.1.1 h.2.1.1

end Go.Proofs.Ytkpjcmiijlpcaaa.W
