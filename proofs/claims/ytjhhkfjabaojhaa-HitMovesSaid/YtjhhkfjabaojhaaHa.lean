/- The functions of layer 21 (hit), and what they come to. -/
import Derived.Test.YtjhhkfjabaojhaaWa
import Derived.Test.YtjhhkfjabaojhaaDa
import Derived.Test.YtjhhkfjabaojhaaAwZ
import Derived.KernelRfl
set_option linter.unusedVariables false
set_option linter.unusedSimpArgs false
namespace Go.Proofs.Ytjhhkfjabaojhaa.W
open Go Go.Proofs Go.Proofs.Ytjhhkfjabaojhaa.Aw
def con82 : List AV → Option Tells
  | [.agg (.cons (.int .i64 a) (.cons (.int .i64 b) (.cons (.int .i64 c) (.cons (.int .i64 d) .nl))))] => some ⟨[], ((AV.int IntKind.i64 a).cons ((AV.int IntKind.i64 c).cons AV.nl)).agg, []⟩
  | _ => none
theorem f82_run (R : AV → List Ob → Prop) (a b c d : Int) : fnA tab eD0 Try.f82 (bodyOf Try.f82) [.agg (.cons (.int .i64 a) (.cons (.int .i64 b) (.cons (.int .i64 c) (.cons (.int .i64 d) .nl))))] R = (R ((AV.int IntKind.i64 a).cons ((AV.int IntKind.i64 c).cons AV.nl)).agg []) := by kernel_rfl
theorem ok82 : ConOk Try.prog (82, con82) := by
  intro args t h hp
  simp only [con82] at h
  split at h
  · cases h
    refine fn_ok envD0 tab_ok mixed Try.func82 (by kernel_rfl) (by kernel_rfl) ?_
    rw [f82_run]
    exact ⟨rfl, rfl⟩
  · cases h
def con84 : List AV → Option Tells
  | [.agg (.cons (.int .i64 a) (.cons (.int .i64 b) (.cons (.int .i64 c) (.cons (.int .i64 d) .nl))))] => some ⟨[], ((AV.int IntKind.i64 b).cons ((AV.int IntKind.i64 d).cons AV.nl)).agg, []⟩
  | _ => none
theorem f84_run (R : AV → List Ob → Prop) (a b c d : Int) : fnA tab eD0 Try.f84 (bodyOf Try.f84) [.agg (.cons (.int .i64 a) (.cons (.int .i64 b) (.cons (.int .i64 c) (.cons (.int .i64 d) .nl))))] R = (R ((AV.int IntKind.i64 b).cons ((AV.int IntKind.i64 d).cons AV.nl)).agg []) := by kernel_rfl
theorem ok84 : ConOk Try.prog (84, con84) := by
  intro args t h hp
  simp only [con84] at h
  split at h
  · cases h
    refine fn_ok envD0 tab_ok mixed Try.func84 (by kernel_rfl) (by kernel_rfl) ?_
    rw [f84_run]
    exact ⟨rfl, rfl⟩
  · cases h
def hasP (r : Rc4) (x y : Int) : Bool := decide (r.1 ≤ x) && decide (x < r.2.2.1) && (decide (r.2.1 ≤ y) && decide (y < r.2.2.2))
def con83 : List AV → Option Tells
  | [.agg (.cons (.int .i64 a) (.cons (.int .i64 b) .nl)), .int .i64 n] => some ⟨[], .bool (decide (a ≤ n) && decide (n < b)), []⟩
  | _ => none
theorem f83_run (R : AV → List Ob → Prop) (a b n : Int) : fnA tab eD0 Try.f83 (bodyOf Try.f83) [.agg (.cons (.int .i64 a) (.cons (.int .i64 b) .nl)), .int .i64 n] R = (bif decide (n ≥ a) then R (AV.bool (decide (n < b))) [] else R (AV.bool false) []) := by kernel_rfl
theorem ok83 : ConOk Try.prog (83, con83) := by
  intro args t h hp
  simp only [con83] at h
  split at h
  · rename_i a b n
    cases h
    refine fn_ok envD0 tab_ok mixed Try.func83 (by kernel_rfl) (by kernel_rfl) ?_
    rw [f83_run]
    try dsimp only
    refine cond_split (fun h => ⟨?_, rfl⟩) (fun h => ⟨?_, rfl⟩)
    · have h' : decide (a ≤ n) = true := h
      rw [h', Bool.true_and]
    · have h' : decide (a ≤ n) = false := h
      rw [h', Bool.false_and]
  · cases h
def consH1 : Cons := (27, con27) :: (28, con28) :: (82, con82) :: (83, con83) :: (84, con84) :: consD0
def twosH1 : Cons2 := twosD0
def pansH1 : Cons3 := pansD0
def itersH1 : Cons4 := itersD0
abbrev eH1 : Env := envOf4 consH1 twosH1 pansH1 itersH1
theorem allconsH1 : ∀ c ∈ consH1, ConOk Try.prog c := all_cons ok27 (all_cons ok28 (all_cons ok82 (all_cons ok83 (all_cons ok84 allconsD0))))
theorem alltwosH1 : ∀ c ∈ twosH1, ConOk2 Try.prog c := alltwosD0
theorem allpansH1 : ∀ c ∈ pansH1, ConOk3 Try.prog c := allpansD0
theorem allitersH1 : ∀ c ∈ itersH1, ConOk4 Try.prog c := allitersD0
theorem envH1 : EnvOk Try.prog eH1 := envOf4_ok _ _ _ _ allconsH1 alltwosH1 allpansH1 allitersH1
def con64 : List AV → Option Tells
  | [.agg (.cons (.int .i64 a) (.cons (.int .i64 b) (.cons (.int .i64 c) (.cons (.int .i64 d) .nl)))), .int .i64 x, .int .i64 y] => some ⟨[], .bool (hasP (a, b, c, d) x y), []⟩
  | _ => none
theorem f64_run (R : AV → List Ob → Prop) (a b c d x y : Int) : fnA tab eH1 Try.f64 (bodyOf Try.f64) [.agg (.cons (.int .i64 a) (.cons (.int .i64 b) (.cons (.int .i64 c) (.cons (.int .i64 d) .nl)))), .int .i64 x, .int .i64 y] R = (bif decide (a ≤ x) && decide (x < c) then R (AV.bool (decide (b ≤ y) && decide (y < d))) [] else R (AV.bool false) []) := by kernel_rfl
theorem ok64 : ConOk Try.prog (64, con64) := by
  intro args t h hp
  simp only [con64] at h
  split at h
  · rename_i a b c d x y
    cases h
    refine fn_ok envH1 tab_ok mixed Try.func64 (by kernel_rfl) (by kernel_rfl) ?_
    rw [f64_run]
    try dsimp only
    refine cond_split (fun h => ⟨?_, rfl⟩) (fun h => ⟨?_, rfl⟩)
    · simp only [hasP]; rw [h, Bool.true_and]
    · simp only [hasP]; rw [h, Bool.false_and]
  · cases h
def consH2 : Cons := (64, con64) :: consH1
def twosH2 : Cons2 := twosH1
def pansH2 : Cons3 := pansH1
def itersH2 : Cons4 := itersH1
abbrev eH2 : Env := envOf4 consH2 twosH2 pansH2 itersH2
theorem allconsH2 : ∀ c ∈ consH2, ConOk Try.prog c := all_cons ok64 allconsH1
theorem alltwosH2 : ∀ c ∈ twosH2, ConOk2 Try.prog c := alltwosH1
theorem allpansH2 : ∀ c ∈ pansH2, ConOk3 Try.prog c := allpansH1
theorem allitersH2 : ∀ c ∈ itersH2, ConOk4 Try.prog c := allitersH1
theorem envH2 : EnvOk Try.prog eH2 := envOf4_ok _ _ _ _ allconsH2 alltwosH2 allpansH2 allitersH2
def hitsTo (xs : List Rc4) (x y : Int) : Nat → List Int
  | 0 => []
  | k + 1 => hitsTo xs x y k ++ bif hasP (xs.getD k (0, 0, 0, 0)) x y then [(k : Int)] else []
def hits (xs : List Rc4) (x y : Int) : List Int := hitsTo xs x y xs.length
theorem hitsTo_len (xs : List Rc4) (x y : Int) : ∀ k, (hitsTo xs x y k).length ≤ k
  | 0 => Nat.le_refl _
  | k + 1 => by
    simp only [hitsTo, List.length_append]
    have := hitsTo_len xs x y k
    cases hasP (xs.getD k (0, 0, 0, 0)) x y
    · simp only [cond_false, List.length_nil]; omega
    · simp only [cond_true, List.length_cons, List.length_nil]; omega
def con26 : List AV → Option Tells
  | [.agg (.cons (.list 47 (.pair (.int .i64) (.pair (.int .i64) (.pair (.int .i64) (.int .i64)))) xs) (.cons (.list 106 (.pair (.int .i64) (.pair (.pair (.int .i64) (.pair (.int .i64) (.pair (.int .i64) (.int .i64)))) (.pair (.int .i64) (.int .i64)))) ls) .nl)), .int .i64 x, .int .i64 y] => some ⟨[xs.length ≤ 4096], .row 0, [.row 3 (.int .i64) (hits xs x y)]⟩
  | _ => none
def f26_live1 : List Nat := [13, 12, 13, 11, 13, 1, 2, 7, 13, 7, 6]
def f26_head1 (xs : List T4.den) (x : Int) (y : Int) (s13 : Int) (o1 : List Int) : St := { slots := [AV.undef, AV.int IntKind.i64 x, AV.int IntKind.i64 y, AV.undef, AV.undef, AV.undef, AV.row 0, AV.row 1, AV.undef, AV.undef, AV.undef, AV.list 47 ((Ty.int IntKind.i64).pair ((Ty.int IntKind.i64).pair ((Ty.int IntKind.i64).pair (Ty.int IntKind.i64)))) xs, AV.int IntKind.i64 (↑xs.length : Int), AV.int IntKind.i64 s13] ++ List.replicate 14 AV.undef, obs := [Ob.row 3 (Ty.int IntKind.i64) [], Ob.row 3 (Ty.int IntKind.i64) o1] }
def f26_q1 (R : AV → List Ob → Prop) : Ex → St → Prop := blockA 0 (seqQ tab eH2 (subC [1, 1, 1] (bodyOf Try.f26)) [6] (endA tab Try.f26 R))
def f26_loop1 (R : AV → List Ob → Prop) (xs : List T4.den) (x : Int) (y : Int) (s13 : Int) (o1 : List Int) : Prop := loopT f26_live1 (codeA tab eH2 (subC [1, 1, 0, 1, 0, 0] (bodyOf Try.f26)) f26_live1) (f26_head1 xs x y s13 o1) (f26_q1 R)
def f26_rhs1 (R : AV → List Ob → Prop) (xs : List T4.den) (x : Int) (y : Int) (J : St → Prop) (s13 : Int) (o1 : List Int) : Prop := bif decide (s13 < (↑xs.length : Int)) then 0 ≤ s13 ∧ s13 < (↑xs.length : Int) ∧ bif hasP ((xs.getD s13.toNat (0, 0, 0, 0)).fst, (xs.getD s13.toNat (0, 0, 0, 0)).snd.fst, (xs.getD s13.toNat (0, 0, 0, 0)).snd.snd.fst, (xs.getD s13.toNat (0, 0, 0, 0)).snd.snd.snd) x y then (o1.length + 1) * 8 ≤ 140737488355328 ∧ J (f26_head1 xs x y (IntKind.i64.wrap (s13 + 1)) (o1 ++ [s13])) else J (f26_head1 xs x y (IntKind.i64.wrap (s13 + 1)) o1) else R (AV.row 0) [Ob.row 3 (Ty.int IntKind.i64) o1]
theorem f26_eq1 (R : AV → List Ob → Prop) (xs : List T4.den) (x : Int) (y : Int) (J : St → Prop) (s13 : Int) (o1 : List Int) : codeA tab eH2 (subC [1, 1, 0, 1, 0, 0] (bodyOf Try.f26)) f26_live1 (f26_head1 xs x y s13 o1) (thenA (fun s => J (St.tidy f26_live1 s)) (f26_q1 R)) = f26_rhs1 R xs x y J s13 o1 := by kernel_rfl
theorem f26_rule1 (R : AV → List Ob → Prop) (xs : List T4.den) (x : Int) (y : Int) (I : Nat → (Int) → (List Int) → Prop) (n : Nat) (s13 : Int) (o1 : List Int) (h0 : I n s13 o1) (h : ∀ n, ∀ (s13 : Int) (o1 : List Int), I n s13 o1 → f26_rhs1 R xs x y (fun t => ∃ m, m < n ∧ ∃ (s13 : Int) (o1 : List Int), t = f26_head1 xs x y s13 o1 ∧ I m s13 o1) s13 o1) : f26_loop1 R xs x y s13 o1 :=
  loop_intro (fun n t => ∃ (s13 : Int) (o1 : List Int), t = f26_head1 xs x y s13 o1 ∧ I n s13 o1) n ⟨s13, o1, rfl, h0⟩ (fun n t ht => by obtain ⟨s13, o1, rfl, hI⟩ := ht; exact Eq.mpr (f26_eq1 R xs x y (fun t => ∃ m, m < n ∧ ∃ (s13 : Int) (o1 : List Int), t = f26_head1 xs x y s13 o1 ∧ I m s13 o1) s13 o1) (h n s13 o1 hI))
theorem f26_run (R : AV → List Ob → Prop) (xs : List T4.den) (ls : List TL.den) (x y : Int) : fnA tab eH2 Try.f26 (bodyOf Try.f26) [.agg (.cons (.list 47 T4 xs) (.cons (.list 106 TL ls) .nl)), .int .i64 x, .int .i64 y] R = (f26_loop1 R xs x y 0 []) := by kernel_rfl
theorem ok26 : ConOk Try.prog (26, con26) := by
  intro args t h hp
  simp only [con26] at h
  split at h
  · rename_i xs ls x y
    change List T4.den at xs
    change List TL.den at ls
    cases h
    refine fn_ok envH2 tab_ok mixed Try.func26 (by kernel_rfl) (by kernel_rfl) ?_
    rw [f26_run]
    try dsimp only
    have hm := hp (xs.length ≤ 4096) (by simp)
    refine f26_rule1 _ xs x y (fun n i o => ∃ k : Nat, k ≤ xs.length ∧ n = xs.length - k ∧ i = k ∧ o = hitsTo xs x y k) xs.length 0 [] ⟨0, by omega, by simp, rfl, rfl⟩ ?_
    rintro n i o ⟨k, hk, rfl, rfl, rfl⟩
    unfold f26_rhs1
    refine dec_split (fun hlt => ⟨by omega, hlt, ?_⟩) (fun hlt => ?_)
    · have hlt' : k < xs.length := by omega
      have hl := hitsTo_len xs x y k
      rw [wrap_next k _ hlt' (by simp only [maxLen]; omega)]
      refine cond_split (fun hc => ⟨by omega, xs.length - (k + 1), by omega, _, _, rfl, k + 1, by omega, rfl, rfl, ?_⟩) (fun hc => ⟨xs.length - (k + 1), by omega, _, _, rfl, k + 1, by omega, rfl, rfl, ?_⟩)
      · have hc' : hasP (xs.getD k (0, 0, 0, 0)) x y = true := hc
        simp only [hitsTo, hc', cond_true]
      · have hc' : hasP (xs.getD k (0, 0, 0, 0)) x y = false := hc
        simp only [hitsTo, hc', cond_false, List.append_nil]
    · have e : k = xs.length := by omega
      subst e
      exact ⟨rfl, rfl⟩
  · cases h
theorem quad (r : Rc4) (X Y : Prop) (hy : nearR r = false → Y) (hx : nearR r = true → X) : bif !decide (r.1 > 288230376151711744) then bif decide (r.1 < -288230376151711744) then Y else bif !decide (r.2.1 > 288230376151711744) then bif decide (r.2.1 < -288230376151711744) then Y else bif !decide (r.2.2.1 > 288230376151711744) then bif decide (r.2.2.1 < -288230376151711744) then Y else bif !decide (r.2.2.2 > 288230376151711744) then bif decide (r.2.2.2 < -288230376151711744) then Y else X else Y else Y else Y else Y := by
  obtain ⟨a, b, c, d⟩ := r
  have far := fun h => hy (far_of a b c d h)
  refine ndec_split (fun h1 => dec_split (fun h2 => far (by simp only at *; omega)) (fun h2 => ?_)) (fun h1 => far (by simp only at *; omega))
  refine ndec_split (fun h3 => dec_split (fun h4 => far (by simp only at *; omega)) (fun h4 => ?_)) (fun h3 => far (by simp only at *; omega))
  refine ndec_split (fun h5 => dec_split (fun h6 => far (by simp only at *; omega)) (fun h6 => ?_)) (fun h5 => far (by simp only at *; omega))
  refine ndec_split (fun h7 => dec_split (fun h8 => far (by simp only at *; omega)) (fun h8 => ?_)) (fun h7 => far (by simp only at *; omega))
  exact hx (near_of a b c d (by simp only at *; omega))
def con24 : List AV → Option Tells
  | [.list 45 (.pair (.int .i64) (.pair (.int .i64) (.pair (.int .i64) (.int .i64)))) xs, .list 45 (.pair (.int .i64) (.pair (.int .i64) (.pair (.int .i64) (.int .i64)))) []] => some ⟨[xs.length * 32 ≤ 140737488355328], .tuple (.cons (.agg (.cons (.row 0) (.cons (.row 1) .nl))) (.cons (.bool (xs.all nearR && decide (xs.length ≤ 40))) .nl)), [.row 47 T4 (bif xs.all nearR then xs else []), .row 106 TL []]⟩
  | _ => none
def f24_live1 : List Nat := [21, 20, 19, 21, 6, 4, 21, 0, 6, 6, 1, 6, 6, 6, 0, 1, 4, 4, 5]
def f24_head1 (xs : List T4.den) (s21 : Int) : St := { slots := [AV.list 45 ((Ty.int IntKind.i64).pair ((Ty.int IntKind.i64).pair ((Ty.int IntKind.i64).pair (Ty.int IntKind.i64)))) xs, AV.list 45 ((Ty.int IntKind.i64).pair ((Ty.int IntKind.i64).pair ((Ty.int IntKind.i64).pair (Ty.int IntKind.i64)))) [], AV.undef, AV.undef, AV.ptr 0 0, AV.bool false, AV.ptr 1 0] ++ List.replicate 12 AV.undef ++ [AV.row 2, AV.int IntKind.i64 (↑(xs ++ []).length : Int), AV.int IntKind.i64 s21] ++ List.replicate 54 AV.undef, obs := [Ob.cells 40 [AV.row 3, AV.row 4], Ob.cells 40 [AV.row 5, AV.row 6], Ob.row 45 ((Ty.int IntKind.i64).pair ((Ty.int IntKind.i64).pair ((Ty.int IntKind.i64).pair (Ty.int IntKind.i64)))) (xs ++ []), Ob.row 47 ((Ty.int IntKind.i64).pair ((Ty.int IntKind.i64).pair ((Ty.int IntKind.i64).pair (Ty.int IntKind.i64)))) [], Ob.row 106 ((Ty.int IntKind.i64).pair (((Ty.int IntKind.i64).pair ((Ty.int IntKind.i64).pair ((Ty.int IntKind.i64).pair (Ty.int IntKind.i64)))).pair ((Ty.int IntKind.i64).pair (Ty.int IntKind.i64)))) [], Ob.row 47 ((Ty.int IntKind.i64).pair ((Ty.int IntKind.i64).pair ((Ty.int IntKind.i64).pair (Ty.int IntKind.i64)))) [], Ob.row 106 ((Ty.int IntKind.i64).pair (((Ty.int IntKind.i64).pair ((Ty.int IntKind.i64).pair ((Ty.int IntKind.i64).pair (Ty.int IntKind.i64)))).pair ((Ty.int IntKind.i64).pair (Ty.int IntKind.i64)))) []] }
def f24_q1 (R : AV → List Ob → Prop) : Ex → St → Prop := blockA 0 (seqQ tab eH2 (subC [1, 1, 1] (bodyOf Try.f24)) [4, 5] (endA tab Try.f24 R))
def f24_loop1 (R : AV → List Ob → Prop) (xs : List T4.den) (s21 : Int) : Prop := loopT f24_live1 (codeA tab eH2 (subC [1, 1, 0, 1, 0, 0] (bodyOf Try.f24)) f24_live1) (f24_head1 xs s21) (f24_q1 R)
def f24_live2 : List Nat := [26, 25, 26, 6, 4, 26, 21, 21, 20, 19, 21, 6, 4, 21, 0, 6, 6, 1, 6, 6, 6, 0, 1, 4, 4, 5]
def f24_head2 (xs : List T4.den) (s21 : Int) : St := { slots := [AV.list 45 ((Ty.int IntKind.i64).pair ((Ty.int IntKind.i64).pair ((Ty.int IntKind.i64).pair (Ty.int IntKind.i64)))) xs, AV.list 45 ((Ty.int IntKind.i64).pair ((Ty.int IntKind.i64).pair ((Ty.int IntKind.i64).pair (Ty.int IntKind.i64)))) [], AV.undef, AV.undef, AV.ptr 0 0, AV.bool false, AV.ptr 1 0] ++ List.replicate 12 AV.undef ++ [AV.row 2, AV.int IntKind.i64 (↑(xs ++ []).length : Int), AV.int IntKind.i64 s21, AV.undef, AV.undef, AV.undef, ((AV.int IntKind.i64 ((xs ++ []).getD s21.toNat (0, 0, 0, 0)).fst).cons ((AV.int IntKind.i64 ((xs ++ []).getD s21.toNat (0, 0, 0, 0)).snd.fst).cons ((AV.int IntKind.i64 ((xs ++ []).getD s21.toNat (0, 0, 0, 0)).snd.snd.fst).cons ((AV.int IntKind.i64 ((xs ++ []).getD s21.toNat (0, 0, 0, 0)).snd.snd.snd).cons AV.nl)))).agg, AV.int IntKind.i64 0] ++ List.replicate 49 AV.undef, obs := [Ob.cells 40 [AV.row 3, AV.row 4], Ob.cells 40 [AV.row 5, AV.row 6], Ob.row 45 ((Ty.int IntKind.i64).pair ((Ty.int IntKind.i64).pair ((Ty.int IntKind.i64).pair (Ty.int IntKind.i64)))) (xs ++ []), Ob.row 47 ((Ty.int IntKind.i64).pair ((Ty.int IntKind.i64).pair ((Ty.int IntKind.i64).pair (Ty.int IntKind.i64)))) [], Ob.row 106 ((Ty.int IntKind.i64).pair (((Ty.int IntKind.i64).pair ((Ty.int IntKind.i64).pair ((Ty.int IntKind.i64).pair (Ty.int IntKind.i64)))).pair ((Ty.int IntKind.i64).pair (Ty.int IntKind.i64)))) [], Ob.row 47 ((Ty.int IntKind.i64).pair ((Ty.int IntKind.i64).pair ((Ty.int IntKind.i64).pair (Ty.int IntKind.i64)))) [], Ob.row 106 ((Ty.int IntKind.i64).pair (((Ty.int IntKind.i64).pair ((Ty.int IntKind.i64).pair ((Ty.int IntKind.i64).pair (Ty.int IntKind.i64)))).pair ((Ty.int IntKind.i64).pair (Ty.int IntKind.i64)))) []] }
def f24_q2 (R : AV → List Ob → Prop) (J : St → Prop) : Ex → St → Prop := blockA 2 (blockA 1 (seqQ tab eH2 (subC [1, 1, 0, 1, 0, 0, 1, 1, 1] (bodyOf Try.f24)) [21, 20, 19, 21, 6, 4, 21, 0, 6, 6, 1, 6, 6, 6, 0, 1, 4, 4, 5] (thenA (fun s => J (St.tidy f24_live1 s)) (blockA 0 (seqQ tab eH2 (subC [1, 1, 1] (bodyOf Try.f24)) [4, 5] (endA tab Try.f24 R))))))
def f24_loop2 (R : AV → List Ob → Prop) (xs : List T4.den) (s21 : Int) (J : St → Prop) : Prop := loopT f24_live2 (codeA tab eH2 (subC [1, 1, 0, 1, 0, 0, 1, 1, 0, 0, 1, 1, 0, 0] (bodyOf Try.f24)) f24_live2) (f24_head2 xs s21) (f24_q2 R J)
theorem f24_eq2 (R : AV → List Ob → Prop) (xs : List T4.den) (s21 : Int) (J : St → Prop) : loopU f24_live2 (codeA tab eH2 (subC [1, 1, 0, 1, 0, 0, 1, 1, 0, 0, 1, 1, 0, 0] (bodyOf Try.f24)) f24_live2) 40 (f24_head2 xs s21) (f24_q2 R J) = (bif !decide (((xs ++ []).getD s21.toNat (0, 0, 0, 0)).fst > 288230376151711744) then bif decide (((xs ++ []).getD s21.toNat (0, 0, 0, 0)).fst < -288230376151711744) then R (((AV.row 0).cons ((AV.row 1).cons AV.nl)).agg.cons ((AV.bool false).cons AV.nl)).tuple [Ob.row 47 ((Ty.int IntKind.i64).pair ((Ty.int IntKind.i64).pair ((Ty.int IntKind.i64).pair (Ty.int IntKind.i64)))) [], Ob.row 106 ((Ty.int IntKind.i64).pair (((Ty.int IntKind.i64).pair ((Ty.int IntKind.i64).pair ((Ty.int IntKind.i64).pair (Ty.int IntKind.i64)))).pair ((Ty.int IntKind.i64).pair (Ty.int IntKind.i64)))) []] else bif !decide (((xs ++ []).getD s21.toNat (0, 0, 0, 0)).snd.fst > 288230376151711744) then bif decide (((xs ++ []).getD s21.toNat (0, 0, 0, 0)).snd.fst < -288230376151711744) then R (((AV.row 0).cons ((AV.row 1).cons AV.nl)).agg.cons ((AV.bool false).cons AV.nl)).tuple [Ob.row 47 ((Ty.int IntKind.i64).pair ((Ty.int IntKind.i64).pair ((Ty.int IntKind.i64).pair (Ty.int IntKind.i64)))) [], Ob.row 106 ((Ty.int IntKind.i64).pair (((Ty.int IntKind.i64).pair ((Ty.int IntKind.i64).pair ((Ty.int IntKind.i64).pair (Ty.int IntKind.i64)))).pair ((Ty.int IntKind.i64).pair (Ty.int IntKind.i64)))) []] else bif !decide (((xs ++ []).getD s21.toNat (0, 0, 0, 0)).snd.snd.fst > 288230376151711744) then bif decide (((xs ++ []).getD s21.toNat (0, 0, 0, 0)).snd.snd.fst < -288230376151711744) then R (((AV.row 0).cons ((AV.row 1).cons AV.nl)).agg.cons ((AV.bool false).cons AV.nl)).tuple [Ob.row 47 ((Ty.int IntKind.i64).pair ((Ty.int IntKind.i64).pair ((Ty.int IntKind.i64).pair (Ty.int IntKind.i64)))) [], Ob.row 106 ((Ty.int IntKind.i64).pair (((Ty.int IntKind.i64).pair ((Ty.int IntKind.i64).pair ((Ty.int IntKind.i64).pair (Ty.int IntKind.i64)))).pair ((Ty.int IntKind.i64).pair (Ty.int IntKind.i64)))) []] else bif !decide (((xs ++ []).getD s21.toNat (0, 0, 0, 0)).snd.snd.snd > 288230376151711744) then bif decide (((xs ++ []).getD s21.toNat (0, 0, 0, 0)).snd.snd.snd < -288230376151711744) then R (((AV.row 0).cons ((AV.row 1).cons AV.nl)).agg.cons ((AV.bool false).cons AV.nl)).tuple [Ob.row 47 ((Ty.int IntKind.i64).pair ((Ty.int IntKind.i64).pair ((Ty.int IntKind.i64).pair (Ty.int IntKind.i64)))) [], Ob.row 106 ((Ty.int IntKind.i64).pair (((Ty.int IntKind.i64).pair ((Ty.int IntKind.i64).pair ((Ty.int IntKind.i64).pair (Ty.int IntKind.i64)))).pair ((Ty.int IntKind.i64).pair (Ty.int IntKind.i64)))) []] else J (f24_head1 xs (IntKind.i64.wrap (s21 + 1))) else R (((AV.row 0).cons ((AV.row 1).cons AV.nl)).agg.cons ((AV.bool false).cons AV.nl)).tuple [Ob.row 47 ((Ty.int IntKind.i64).pair ((Ty.int IntKind.i64).pair ((Ty.int IntKind.i64).pair (Ty.int IntKind.i64)))) [], Ob.row 106 ((Ty.int IntKind.i64).pair (((Ty.int IntKind.i64).pair ((Ty.int IntKind.i64).pair ((Ty.int IntKind.i64).pair (Ty.int IntKind.i64)))).pair ((Ty.int IntKind.i64).pair (Ty.int IntKind.i64)))) []] else R (((AV.row 0).cons ((AV.row 1).cons AV.nl)).agg.cons ((AV.bool false).cons AV.nl)).tuple [Ob.row 47 ((Ty.int IntKind.i64).pair ((Ty.int IntKind.i64).pair ((Ty.int IntKind.i64).pair (Ty.int IntKind.i64)))) [], Ob.row 106 ((Ty.int IntKind.i64).pair (((Ty.int IntKind.i64).pair ((Ty.int IntKind.i64).pair ((Ty.int IntKind.i64).pair (Ty.int IntKind.i64)))).pair ((Ty.int IntKind.i64).pair (Ty.int IntKind.i64)))) []] else R (((AV.row 0).cons ((AV.row 1).cons AV.nl)).agg.cons ((AV.bool false).cons AV.nl)).tuple [Ob.row 47 ((Ty.int IntKind.i64).pair ((Ty.int IntKind.i64).pair ((Ty.int IntKind.i64).pair (Ty.int IntKind.i64)))) [], Ob.row 106 ((Ty.int IntKind.i64).pair (((Ty.int IntKind.i64).pair ((Ty.int IntKind.i64).pair ((Ty.int IntKind.i64).pair (Ty.int IntKind.i64)))).pair ((Ty.int IntKind.i64).pair (Ty.int IntKind.i64)))) []] else R (((AV.row 0).cons ((AV.row 1).cons AV.nl)).agg.cons ((AV.bool false).cons AV.nl)).tuple [Ob.row 47 ((Ty.int IntKind.i64).pair ((Ty.int IntKind.i64).pair ((Ty.int IntKind.i64).pair (Ty.int IntKind.i64)))) [], Ob.row 106 ((Ty.int IntKind.i64).pair (((Ty.int IntKind.i64).pair ((Ty.int IntKind.i64).pair ((Ty.int IntKind.i64).pair (Ty.int IntKind.i64)))).pair ((Ty.int IntKind.i64).pair (Ty.int IntKind.i64)))) []]) := by kernel_rfl
theorem f24_rule2 (R : AV → List Ob → Prop) (xs : List T4.den) (s21 : Int) (J : St → Prop) (h : bif !decide (((xs ++ []).getD s21.toNat (0, 0, 0, 0)).fst > 288230376151711744) then bif decide (((xs ++ []).getD s21.toNat (0, 0, 0, 0)).fst < -288230376151711744) then R (((AV.row 0).cons ((AV.row 1).cons AV.nl)).agg.cons ((AV.bool false).cons AV.nl)).tuple [Ob.row 47 ((Ty.int IntKind.i64).pair ((Ty.int IntKind.i64).pair ((Ty.int IntKind.i64).pair (Ty.int IntKind.i64)))) [], Ob.row 106 ((Ty.int IntKind.i64).pair (((Ty.int IntKind.i64).pair ((Ty.int IntKind.i64).pair ((Ty.int IntKind.i64).pair (Ty.int IntKind.i64)))).pair ((Ty.int IntKind.i64).pair (Ty.int IntKind.i64)))) []] else bif !decide (((xs ++ []).getD s21.toNat (0, 0, 0, 0)).snd.fst > 288230376151711744) then bif decide (((xs ++ []).getD s21.toNat (0, 0, 0, 0)).snd.fst < -288230376151711744) then R (((AV.row 0).cons ((AV.row 1).cons AV.nl)).agg.cons ((AV.bool false).cons AV.nl)).tuple [Ob.row 47 ((Ty.int IntKind.i64).pair ((Ty.int IntKind.i64).pair ((Ty.int IntKind.i64).pair (Ty.int IntKind.i64)))) [], Ob.row 106 ((Ty.int IntKind.i64).pair (((Ty.int IntKind.i64).pair ((Ty.int IntKind.i64).pair ((Ty.int IntKind.i64).pair (Ty.int IntKind.i64)))).pair ((Ty.int IntKind.i64).pair (Ty.int IntKind.i64)))) []] else bif !decide (((xs ++ []).getD s21.toNat (0, 0, 0, 0)).snd.snd.fst > 288230376151711744) then bif decide (((xs ++ []).getD s21.toNat (0, 0, 0, 0)).snd.snd.fst < -288230376151711744) then R (((AV.row 0).cons ((AV.row 1).cons AV.nl)).agg.cons ((AV.bool false).cons AV.nl)).tuple [Ob.row 47 ((Ty.int IntKind.i64).pair ((Ty.int IntKind.i64).pair ((Ty.int IntKind.i64).pair (Ty.int IntKind.i64)))) [], Ob.row 106 ((Ty.int IntKind.i64).pair (((Ty.int IntKind.i64).pair ((Ty.int IntKind.i64).pair ((Ty.int IntKind.i64).pair (Ty.int IntKind.i64)))).pair ((Ty.int IntKind.i64).pair (Ty.int IntKind.i64)))) []] else bif !decide (((xs ++ []).getD s21.toNat (0, 0, 0, 0)).snd.snd.snd > 288230376151711744) then bif decide (((xs ++ []).getD s21.toNat (0, 0, 0, 0)).snd.snd.snd < -288230376151711744) then R (((AV.row 0).cons ((AV.row 1).cons AV.nl)).agg.cons ((AV.bool false).cons AV.nl)).tuple [Ob.row 47 ((Ty.int IntKind.i64).pair ((Ty.int IntKind.i64).pair ((Ty.int IntKind.i64).pair (Ty.int IntKind.i64)))) [], Ob.row 106 ((Ty.int IntKind.i64).pair (((Ty.int IntKind.i64).pair ((Ty.int IntKind.i64).pair ((Ty.int IntKind.i64).pair (Ty.int IntKind.i64)))).pair ((Ty.int IntKind.i64).pair (Ty.int IntKind.i64)))) []] else J (f24_head1 xs (IntKind.i64.wrap (s21 + 1))) else R (((AV.row 0).cons ((AV.row 1).cons AV.nl)).agg.cons ((AV.bool false).cons AV.nl)).tuple [Ob.row 47 ((Ty.int IntKind.i64).pair ((Ty.int IntKind.i64).pair ((Ty.int IntKind.i64).pair (Ty.int IntKind.i64)))) [], Ob.row 106 ((Ty.int IntKind.i64).pair (((Ty.int IntKind.i64).pair ((Ty.int IntKind.i64).pair ((Ty.int IntKind.i64).pair (Ty.int IntKind.i64)))).pair ((Ty.int IntKind.i64).pair (Ty.int IntKind.i64)))) []] else R (((AV.row 0).cons ((AV.row 1).cons AV.nl)).agg.cons ((AV.bool false).cons AV.nl)).tuple [Ob.row 47 ((Ty.int IntKind.i64).pair ((Ty.int IntKind.i64).pair ((Ty.int IntKind.i64).pair (Ty.int IntKind.i64)))) [], Ob.row 106 ((Ty.int IntKind.i64).pair (((Ty.int IntKind.i64).pair ((Ty.int IntKind.i64).pair ((Ty.int IntKind.i64).pair (Ty.int IntKind.i64)))).pair ((Ty.int IntKind.i64).pair (Ty.int IntKind.i64)))) []] else R (((AV.row 0).cons ((AV.row 1).cons AV.nl)).agg.cons ((AV.bool false).cons AV.nl)).tuple [Ob.row 47 ((Ty.int IntKind.i64).pair ((Ty.int IntKind.i64).pair ((Ty.int IntKind.i64).pair (Ty.int IntKind.i64)))) [], Ob.row 106 ((Ty.int IntKind.i64).pair (((Ty.int IntKind.i64).pair ((Ty.int IntKind.i64).pair ((Ty.int IntKind.i64).pair (Ty.int IntKind.i64)))).pair ((Ty.int IntKind.i64).pair (Ty.int IntKind.i64)))) []] else R (((AV.row 0).cons ((AV.row 1).cons AV.nl)).agg.cons ((AV.bool false).cons AV.nl)).tuple [Ob.row 47 ((Ty.int IntKind.i64).pair ((Ty.int IntKind.i64).pair ((Ty.int IntKind.i64).pair (Ty.int IntKind.i64)))) [], Ob.row 106 ((Ty.int IntKind.i64).pair (((Ty.int IntKind.i64).pair ((Ty.int IntKind.i64).pair ((Ty.int IntKind.i64).pair (Ty.int IntKind.i64)))).pair ((Ty.int IntKind.i64).pair (Ty.int IntKind.i64)))) []]) : f24_loop2 R xs s21 J := loop_rounds 40 (Eq.mpr (f24_eq2 R xs s21 J) h)
def f24_live3 : List Nat := [40, 39, 38, 40, 6, 6, 40, 1, 6, 6, 6, 0, 1, 4, 4, 5]
def f24_head3 (xs : List T4.den) (s40' : Int) (o4' : List (Int × Int × Int × Int)) : St := { slots := [AV.list 45 ((Ty.int IntKind.i64).pair ((Ty.int IntKind.i64).pair ((Ty.int IntKind.i64).pair (Ty.int IntKind.i64)))) xs, AV.list 45 ((Ty.int IntKind.i64).pair ((Ty.int IntKind.i64).pair ((Ty.int IntKind.i64).pair (Ty.int IntKind.i64)))) [], AV.undef, AV.undef, AV.ptr 0 0, AV.bool false, AV.ptr 1 0] ++ List.replicate 31 AV.undef ++ [AV.list 45 ((Ty.int IntKind.i64).pair ((Ty.int IntKind.i64).pair ((Ty.int IntKind.i64).pair (Ty.int IntKind.i64)))) xs, AV.int IntKind.i64 (↑xs.length : Int), AV.int IntKind.i64 s40'] ++ List.replicate 35 AV.undef, obs := [Ob.cells 40 [AV.row 2, AV.row 3], Ob.cells 40 [AV.row 4, AV.row 5], Ob.row 47 ((Ty.int IntKind.i64).pair ((Ty.int IntKind.i64).pair ((Ty.int IntKind.i64).pair (Ty.int IntKind.i64)))) [], Ob.row 106 ((Ty.int IntKind.i64).pair (((Ty.int IntKind.i64).pair ((Ty.int IntKind.i64).pair ((Ty.int IntKind.i64).pair (Ty.int IntKind.i64)))).pair ((Ty.int IntKind.i64).pair (Ty.int IntKind.i64)))) [], Ob.row 47 ((Ty.int IntKind.i64).pair ((Ty.int IntKind.i64).pair ((Ty.int IntKind.i64).pair (Ty.int IntKind.i64)))) o4', Ob.row 106 ((Ty.int IntKind.i64).pair (((Ty.int IntKind.i64).pair ((Ty.int IntKind.i64).pair ((Ty.int IntKind.i64).pair (Ty.int IntKind.i64)))).pair ((Ty.int IntKind.i64).pair (Ty.int IntKind.i64)))) []] }
def f24_q3 (R : AV → List Ob → Prop) : Ex → St → Prop := blockA 4 (seqQ tab eH2 (subC [1, 1, 1, 1] (bodyOf Try.f24)) [4, 5] (endA tab Try.f24 R))
def f24_loop3 (R : AV → List Ob → Prop) (xs : List T4.den) (s40' : Int) (o4' : List (Int × Int × Int × Int)) : Prop := loopT f24_live3 (codeA tab eH2 (subC [1, 1, 1, 0, 1, 0, 0] (bodyOf Try.f24)) f24_live3) (f24_head3 xs s40' o4') (f24_q3 R)
def f24_live4 : List Nat := [54, 53, 52, 54, 6, 6, 54, 6, 0, 1, 4, 4, 5]
def f24_head4 (xs : List T4.den) (o4' : List (Int × Int × Int × Int)) : St := { slots := [AV.list 45 ((Ty.int IntKind.i64).pair ((Ty.int IntKind.i64).pair ((Ty.int IntKind.i64).pair (Ty.int IntKind.i64)))) xs, AV.list 45 ((Ty.int IntKind.i64).pair ((Ty.int IntKind.i64).pair ((Ty.int IntKind.i64).pair (Ty.int IntKind.i64)))) [], AV.undef, AV.undef, AV.ptr 0 0, AV.bool false, AV.ptr 1 0] ++ List.replicate 45 AV.undef ++ [AV.list 45 ((Ty.int IntKind.i64).pair ((Ty.int IntKind.i64).pair ((Ty.int IntKind.i64).pair (Ty.int IntKind.i64)))) [], AV.int IntKind.i64 0, AV.int IntKind.i64 0] ++ List.replicate 21 AV.undef, obs := [Ob.cells 40 [AV.row 2, AV.row 3], Ob.cells 40 [AV.row 4, AV.row 5], Ob.row 47 ((Ty.int IntKind.i64).pair ((Ty.int IntKind.i64).pair ((Ty.int IntKind.i64).pair (Ty.int IntKind.i64)))) [], Ob.row 106 ((Ty.int IntKind.i64).pair (((Ty.int IntKind.i64).pair ((Ty.int IntKind.i64).pair ((Ty.int IntKind.i64).pair (Ty.int IntKind.i64)))).pair ((Ty.int IntKind.i64).pair (Ty.int IntKind.i64)))) [], Ob.row 47 ((Ty.int IntKind.i64).pair ((Ty.int IntKind.i64).pair ((Ty.int IntKind.i64).pair (Ty.int IntKind.i64)))) o4', Ob.row 106 ((Ty.int IntKind.i64).pair (((Ty.int IntKind.i64).pair ((Ty.int IntKind.i64).pair ((Ty.int IntKind.i64).pair (Ty.int IntKind.i64)))).pair ((Ty.int IntKind.i64).pair (Ty.int IntKind.i64)))) []] }
def f24_q4 (R : AV → List Ob → Prop) : Ex → St → Prop := blockA 6 (seqQ tab eH2 (subC [1, 1, 1, 1, 1] (bodyOf Try.f24)) [4, 5] (endA tab Try.f24 R))
def f24_loop4 (R : AV → List Ob → Prop) (xs : List T4.den) (o4' : List (Int × Int × Int × Int)) : Prop := loopT f24_live4 (codeA tab eH2 (subC [1, 1, 1, 1, 0, 1, 0, 0] (bodyOf Try.f24)) f24_live4) (f24_head4 xs o4') (f24_q4 R)
theorem f24_eq4 (R : AV → List Ob → Prop) (xs : List T4.den) (o4' : List (Int × Int × Int × Int)) : loopU f24_live4 (codeA tab eH2 (subC [1, 1, 1, 1, 0, 1, 0, 0] (bodyOf Try.f24)) f24_live4) 40 (f24_head4 xs o4') (f24_q4 R) = (bif decide ((↑xs.length : Int) ≤ 40) then R (((AV.row 0).cons ((AV.row 1).cons AV.nl)).agg.cons ((AV.bool true).cons AV.nl)).tuple [Ob.row 47 ((Ty.int IntKind.i64).pair ((Ty.int IntKind.i64).pair ((Ty.int IntKind.i64).pair (Ty.int IntKind.i64)))) o4', Ob.row 106 ((Ty.int IntKind.i64).pair (((Ty.int IntKind.i64).pair ((Ty.int IntKind.i64).pair ((Ty.int IntKind.i64).pair (Ty.int IntKind.i64)))).pair ((Ty.int IntKind.i64).pair (Ty.int IntKind.i64)))) []] else R (((AV.row 0).cons ((AV.row 1).cons AV.nl)).agg.cons ((AV.bool false).cons AV.nl)).tuple [Ob.row 47 ((Ty.int IntKind.i64).pair ((Ty.int IntKind.i64).pair ((Ty.int IntKind.i64).pair (Ty.int IntKind.i64)))) o4', Ob.row 106 ((Ty.int IntKind.i64).pair (((Ty.int IntKind.i64).pair ((Ty.int IntKind.i64).pair ((Ty.int IntKind.i64).pair (Ty.int IntKind.i64)))).pair ((Ty.int IntKind.i64).pair (Ty.int IntKind.i64)))) []]) := by kernel_rfl
theorem f24_rule4 (R : AV → List Ob → Prop) (xs : List T4.den) (o4' : List (Int × Int × Int × Int)) (h : bif decide ((↑xs.length : Int) ≤ 40) then R (((AV.row 0).cons ((AV.row 1).cons AV.nl)).agg.cons ((AV.bool true).cons AV.nl)).tuple [Ob.row 47 ((Ty.int IntKind.i64).pair ((Ty.int IntKind.i64).pair ((Ty.int IntKind.i64).pair (Ty.int IntKind.i64)))) o4', Ob.row 106 ((Ty.int IntKind.i64).pair (((Ty.int IntKind.i64).pair ((Ty.int IntKind.i64).pair ((Ty.int IntKind.i64).pair (Ty.int IntKind.i64)))).pair ((Ty.int IntKind.i64).pair (Ty.int IntKind.i64)))) []] else R (((AV.row 0).cons ((AV.row 1).cons AV.nl)).agg.cons ((AV.bool false).cons AV.nl)).tuple [Ob.row 47 ((Ty.int IntKind.i64).pair ((Ty.int IntKind.i64).pair ((Ty.int IntKind.i64).pair (Ty.int IntKind.i64)))) o4', Ob.row 106 ((Ty.int IntKind.i64).pair (((Ty.int IntKind.i64).pair ((Ty.int IntKind.i64).pair ((Ty.int IntKind.i64).pair (Ty.int IntKind.i64)))).pair ((Ty.int IntKind.i64).pair (Ty.int IntKind.i64)))) []]) : f24_loop4 R xs o4' := loop_rounds 40 (Eq.mpr (f24_eq4 R xs o4') h)
def f24_rhs3 (R : AV → List Ob → Prop) (xs : List T4.den) (J1 : St → Prop) (s40' : Int) (o4' : List (Int × Int × Int × Int)) : Prop := bif decide (s40' < (↑xs.length : Int)) then 0 ≤ s40' ∧ s40' < (↑xs.length : Int) ∧ (o4'.length + 1) * 32 ≤ 140737488355328 ∧ J1 (f24_head3 xs (IntKind.i64.wrap (s40' + 1)) (o4' ++ [((xs.getD s40'.toNat (0, 0, 0, 0)).fst, (xs.getD s40'.toNat (0, 0, 0, 0)).snd.fst, (xs.getD s40'.toNat (0, 0, 0, 0)).snd.snd.fst, (xs.getD s40'.toNat (0, 0, 0, 0)).snd.snd.snd)])) else f24_loop4 R xs o4'
theorem f24_eq3 (R : AV → List Ob → Prop) (xs : List T4.den) (J1 : St → Prop) (s40' : Int) (o4' : List (Int × Int × Int × Int)) : codeA tab eH2 (subC [1, 1, 1, 0, 1, 0, 0] (bodyOf Try.f24)) f24_live3 (f24_head3 xs s40' o4') (thenA (fun s => J1 (St.tidy f24_live3 s)) (f24_q3 R)) = f24_rhs3 R xs J1 s40' o4' := by kernel_rfl
theorem f24_rule3 (R : AV → List Ob → Prop) (xs : List T4.den) (I : Nat → (Int) → (List (Int × Int × Int × Int)) → Prop) (n : Nat) (s40' : Int) (o4' : List (Int × Int × Int × Int)) (h0 : I n s40' o4') (h : ∀ n, ∀ (s40' : Int) (o4' : List (Int × Int × Int × Int)), I n s40' o4' → f24_rhs3 R xs (fun t => ∃ m, m < n ∧ ∃ (s40' : Int) (o4' : List (Int × Int × Int × Int)), t = f24_head3 xs s40' o4' ∧ I m s40' o4') s40' o4') : f24_loop3 R xs s40' o4' :=
  loop_intro (fun n t => ∃ (s40' : Int) (o4' : List (Int × Int × Int × Int)), t = f24_head3 xs s40' o4' ∧ I n s40' o4') n ⟨s40', o4', rfl, h0⟩ (fun n t ht => by obtain ⟨s40', o4', rfl, hI⟩ := ht; exact Eq.mpr (f24_eq3 R xs (fun t => ∃ m, m < n ∧ ∃ (s40' : Int) (o4' : List (Int × Int × Int × Int)), t = f24_head3 xs s40' o4' ∧ I m s40' o4') s40' o4') (h n s40' o4' hI))
def f24_rhs1 (R : AV → List Ob → Prop) (xs : List T4.den) (J : St → Prop) (s21 : Int) : Prop := bif decide (s21 < (↑(xs ++ []).length : Int)) then 0 ≤ s21 ∧ s21 < (↑(xs ++ []).length : Int) ∧ f24_loop2 R xs s21 J else f24_loop3 R xs 0 []
theorem f24_eq1 (R : AV → List Ob → Prop) (xs : List T4.den) (J : St → Prop) (s21 : Int) : codeA tab eH2 (subC [1, 1, 0, 1, 0, 0] (bodyOf Try.f24)) f24_live1 (f24_head1 xs s21) (thenA (fun s => J (St.tidy f24_live1 s)) (f24_q1 R)) = f24_rhs1 R xs J s21 := by kernel_rfl
theorem f24_rule1 (R : AV → List Ob → Prop) (xs : List T4.den) (I : Nat → (Int) → Prop) (n : Nat) (s21 : Int) (h0 : I n s21) (h : ∀ n, ∀ (s21 : Int), I n s21 → f24_rhs1 R xs (fun t => ∃ m, m < n ∧ ∃ (s21 : Int), t = f24_head1 xs s21 ∧ I m s21) s21) : f24_loop1 R xs s21 :=
  loop_intro (fun n t => ∃ (s21 : Int), t = f24_head1 xs s21 ∧ I n s21) n ⟨s21, rfl, h0⟩ (fun n t ht => by obtain ⟨s21, rfl, hI⟩ := ht; exact Eq.mpr (f24_eq1 R xs (fun t => ∃ m, m < n ∧ ∃ (s21 : Int), t = f24_head1 xs s21 ∧ I m s21) s21) (h n s21 hI))
theorem f24_run (R : AV → List Ob → Prop) (xs : List T4.den) : fnA tab eH2 Try.f24 (bodyOf Try.f24) [.list 45 T4 xs, .list 45 T4 []] R = ((0 + xs.length) * 32 ≤ 140737488355328 ∧ (xs.length + 0) * 32 ≤ 140737488355328 ∧ f24_loop1 R xs 0) := by kernel_rfl
theorem ok24 : ConOk Try.prog (24, con24) := by
  intro args t h hp
  simp only [con24] at h
  split at h
  · rename_i xs
    change List T4.den at xs
    cases h
    refine fn_ok envH2 tab_ok mixed Try.func24 (by kernel_rfl) (by kernel_rfl) ?_
    rw [f24_run]
    try dsimp only
    have hm := hp (xs.length * 32 ≤ 140737488355328) (by simp)
    refine ⟨by omega, by omega, ?_⟩
    refine f24_rule1 _ xs (fun n i => ∃ k : Nat, k ≤ xs.length ∧ n = xs.length - k ∧ i = k ∧ (xs.take k).all nearR = true) xs.length 0 ⟨0, by omega, by simp, rfl, by simp⟩ ?_
    rintro n i ⟨k, hk, rfl, rfl, hall⟩
    unfold f24_rhs1
    rw [List.append_nil]
    refine dec_split (fun hlt => ⟨by omega, hlt, ?_⟩) (fun hlt => ?_)
    · have hlt' : k < xs.length := by omega
      refine f24_rule2 _ xs _ _ ?_
      rw [List.append_nil, getD_nat xs (0, 0, 0, 0) k hlt', wrap_next k _ hlt' (by simp only [maxLen]; omega)]
      have hnext : nearR xs[k] = true → (xs.take (k + 1)).all nearR = true := fun h => by rw [take_next xs k hlt', List.all_append, hall]; simp [h]
      have hno : nearR xs[k] = false → xs.all nearR = false := fun h => by
        rw [List.all_eq_false]
        exact ⟨xs[k], List.getElem_mem _, by simp [h]⟩
      exact quad xs[k] _ _ (fun h => ⟨by rw [hno h]; rfl, by rw [hno h]; rfl⟩) (fun h => ⟨xs.length - (k + 1), by omega, _, rfl, k + 1, by omega, rfl, rfl, hnext h⟩)
    · rw [take_all xs k (by omega)] at hall
      simp only [hall, Bool.true_and, cond_true]
      refine f24_rule3 _ xs (fun n i o => ∃ k : Nat, k ≤ xs.length ∧ n = xs.length - k ∧ i = k ∧ o = xs.take k) xs.length 0 [] ⟨0, by omega, by simp, rfl, by simp⟩ ?_
      rintro n i o ⟨j, hj, rfl, rfl, rfl⟩
      unfold f24_rhs3
      refine dec_split (fun hlt => ⟨by omega, hlt, ?_, ?_⟩) (fun hlt => ?_)
      · simp only [List.length_take]; omega
      · have hlt' : j < xs.length := by omega
        exact ⟨xs.length - (j + 1), by omega, _, _, rfl, j + 1, by omega, rfl, wrap_next j _ hlt' (by simp only [maxLen]; omega), step4 xs j hlt'⟩
      · rw [take_all xs j (by omega)]
        refine f24_rule4 _ xs xs ?_
        refine dec_split (fun h => ⟨?_, rfl⟩) (fun h => ⟨?_, rfl⟩)
        · rw [decide_eq_true (show xs.length ≤ 40 by omega)]
        · rw [decide_eq_false (show ¬ xs.length ≤ 40 by omega)]
  · cases h
def con29 : List AV → Option Tells
  | [.list 3 (.int .i64) xs, .list 3 (.int .i64) ys] => some ⟨[xs.length ≤ maxLen], .bool (decide (xs = ys)), []⟩
  | _ => none
def f29_live1 : List Nat := [5, 0, 0, 5, 1, 5, 5, 4]
def f29_head1 (xs : List (Ty.int IntKind.i64).den) (ys : List (Ty.int IntKind.i64).den) (s5 : Int) : St := { slots := [AV.list 3 (Ty.int IntKind.i64) xs, AV.list 3 (Ty.int IntKind.i64) ys, AV.undef, AV.undef, AV.bool false, AV.int IntKind.i64 s5] ++ List.replicate 20 AV.undef, obs := [] }
def f29_q1 (R : AV → List Ob → Prop) : Ex → St → Prop := blockA 0 (seqQ tab eH2 (subC [1, 1, 1] (bodyOf Try.f29)) [4] (endA tab Try.f29 R))
def f29_loop1 (R : AV → List Ob → Prop) (xs : List (Ty.int IntKind.i64).den) (ys : List (Ty.int IntKind.i64).den) (s5 : Int) : Prop := loopT f29_live1 (codeA tab eH2 (subC [1, 1, 0, 1, 0, 0] (bodyOf Try.f29)) f29_live1) (f29_head1 xs ys s5) (f29_q1 R)
def f29_rhs1 (R : AV → List Ob → Prop) (xs : List (Ty.int IntKind.i64).den) (ys : List (Ty.int IntKind.i64).den) (J : St → Prop) (s5 : Int) : Prop := bif decide (s5 < (↑xs.length : Int)) then 0 ≤ s5 ∧ s5 < (↑xs.length : Int) ∧ 0 ≤ s5 ∧ s5 < (↑ys.length : Int) ∧ bif xs.getD s5.toNat 0 != ys.getD s5.toNat 0 then R (AV.bool false) [] else J (f29_head1 xs ys (IntKind.i64.wrap (s5 + 1))) else R (AV.bool true) []
theorem f29_eq1 (R : AV → List Ob → Prop) (xs : List (Ty.int IntKind.i64).den) (ys : List (Ty.int IntKind.i64).den) (J : St → Prop) (s5 : Int) : codeA tab eH2 (subC [1, 1, 0, 1, 0, 0] (bodyOf Try.f29)) f29_live1 (f29_head1 xs ys s5) (thenA (fun s => J (St.tidy f29_live1 s)) (f29_q1 R)) = f29_rhs1 R xs ys J s5 := by kernel_rfl
theorem f29_rule1 (R : AV → List Ob → Prop) (xs : List (Ty.int IntKind.i64).den) (ys : List (Ty.int IntKind.i64).den) (I : Nat → (Int) → Prop) (n : Nat) (s5 : Int) (h0 : I n s5) (h : ∀ n, ∀ (s5 : Int), I n s5 → f29_rhs1 R xs ys (fun t => ∃ m, m < n ∧ ∃ (s5 : Int), t = f29_head1 xs ys s5 ∧ I m s5) s5) : f29_loop1 R xs ys s5 :=
  loop_intro (fun n t => ∃ (s5 : Int), t = f29_head1 xs ys s5 ∧ I n s5) n ⟨s5, rfl, h0⟩ (fun n t ht => by obtain ⟨s5, rfl, hI⟩ := ht; exact Eq.mpr (f29_eq1 R xs ys (fun t => ∃ m, m < n ∧ ∃ (s5 : Int), t = f29_head1 xs ys s5 ∧ I m s5) s5) (h n s5 hI))
theorem f29_run (R : AV → List Ob → Prop) (xs ys : List (Ty.int .i64).den) : fnA tab eH2 Try.f29 (bodyOf Try.f29) [.list 3 (.int .i64) xs, .list 3 (.int .i64) ys] R = (bif (↑xs.length : Int) != (↑ys.length : Int) then R (AV.bool false) [] else f29_loop1 R xs ys 0) := by kernel_rfl
theorem ok29 : ConOk Try.prog (29, con29) := by
  intro args t h hp
  simp only [con29] at h
  split at h
  · rename_i xs ys
    change List (Ty.int .i64).den at xs
    change List (Ty.int .i64).den at ys
    cases h
    refine fn_ok envH2 tab_ok mixed Try.func29 (by kernel_rfl) (by kernel_rfl) ?_
    rw [f29_run]
    try dsimp only
    have hx := hp (xs.length ≤ maxLen) (by simp)
    refine cond_split (fun h => ⟨?_, rfl⟩) (fun h => ?_)
    · have : xs ≠ ys := fun e => by rw [e] at h; simp at h
      rw [decide_eq_false this]
    have hl : xs.length = ys.length := by simp at h; omega
    refine f29_rule1 _ xs ys (fun n i => ∃ k : Nat, k ≤ xs.length ∧ n = xs.length - k ∧ i = k ∧ xs.take k = ys.take k) xs.length 0 ⟨0, by omega, by simp, rfl, by simp⟩ ?_
    rintro n i ⟨k, hk, rfl, rfl, htk⟩
    unfold f29_rhs1
    refine dec_split (fun hlt => ⟨by omega, hlt, by omega, by omega, ?_⟩) (fun hlt => ?_)
    · have hlt' : k < xs.length := by omega
      rw [getD_nat xs 0 k hlt', getD_nat ys 0 k (by omega)]
      refine cond_split (fun hc => ⟨?_, rfl⟩) (fun hc => ⟨xs.length - (k + 1), by omega, _, rfl, k + 1, by omega, rfl, wrap_next k _ hlt' hx, ?_⟩)
      · have : xs ≠ ys := fun e => by subst e; simp at hc
        rw [decide_eq_false this]
      · rw [take_next xs k hlt', take_next ys k (by omega), htk]
        simp at hc
        rw [hc]
    · have e : xs = ys := by
        rw [List.take_of_length_le (by omega), List.take_of_length_le (by omega)] at htk
        exact htk
      rw [decide_eq_true e]
      exact ⟨rfl, rfl⟩
  · cases h
def con81 : List AV → List Ob → Option Tells2
  | [.agg (.cons (.int .i64 a) (.cons (.int .i64 b) (.cons (.int .i64 c) (.cons (.int .i64 d) .nl)))), .ptr 0 0, .ptr 1 0], [.cells 3 [.int .i64 x], .cells 3 [.int .i64 y]] => some ⟨[], .bool (hasP (a, b, c, d) x y), [none, none], []⟩
  | _, _ => none
theorem f81_run (R : AV → List Ob → Prop) (a b c d x y : Int) : fnB tab eH2 Try.f81 (bodyOf Try.f81) [.agg (.cons (.int .i64 a) (.cons (.int .i64 b) (.cons (.int .i64 c) (.cons (.int .i64 d) .nl)))), .ptr 0 0, .ptr 1 0] [.cells 3 [.int .i64 x], .cells 3 [.int .i64 y]] R = (R (AV.bool (hasP (a, b, c, d) x y)) [Ob.cells 3 [AV.int IntKind.i64 x], Ob.cells 3 [AV.int IntKind.i64 y]]) := by kernel_rfl
theorem ok81 : ConOk2 Try.prog (81, con81) := by
  intro args obs t h hp
  simp only [con81] at h
  split at h
  · rename_i a b c d x y
    cases h
    refine fn_ok2 envH2 tab_ok mixed Try.func81 (by kernel_rfl) (by kernel_rfl) ?_
    rw [f81_run]
    try dsimp only
    exact ⟨rfl, rfl⟩
  · cases h
def con89 : List AV → Option Tells
  | [.list 47 (.pair (.int .i64) (.pair (.int .i64) (.pair (.int .i64) (.int .i64)))) xs] => some ⟨[], AV.fn (Fn.func 91) AV.nl ((AV.ptr 0 0).cons AV.nl), [Ob.cells 37 [AV.list 47 ((Ty.int IntKind.i64).pair ((Ty.int IntKind.i64).pair ((Ty.int IntKind.i64).pair (Ty.int IntKind.i64)))) xs]]⟩
  | _ => none
theorem f89_run (R : AV → List Ob → Prop) (xs : List T4.den) : fnA tab eH2 Try.f89 (bodyOf Try.f89) [.list 47 T4 xs] R = (R (AV.fn (Fn.func 91) AV.nl ((AV.ptr 0 0).cons AV.nl)) [Ob.cells 37 [AV.list 47 ((Ty.int IntKind.i64).pair ((Ty.int IntKind.i64).pair ((Ty.int IntKind.i64).pair (Ty.int IntKind.i64)))) xs]]) := by kernel_rfl
theorem ok89 : ConOk Try.prog (89, con89) := by
  intro args t h hp
  simp only [con89] at h
  split at h
  · cases h
    refine fn_ok envH2 tab_ok mixed Try.func89 (by kernel_rfl) (by kernel_rfl) ?_
    rw [f89_run]
    exact ⟨rfl, rfl⟩
  · cases h
def con91 : List AV → List AV → List Ob → Option TellsI
  | [], [.ptr 0 0], [.cells 37 [.list 47 (.pair (.int .i64) (.pair (.int .i64) (.pair (.int .i64) (.int .i64)))) xs]] => some ⟨[xs.length ≤ 4096], xs.length, fun i => [.int .i64 ((xs.length : Int) - 1 - i), .agg (.cons (.int .i64 (xs.getD ((xs.length : Int) - 1 - i).toNat (0, 0, 0, 0)).1) (.cons (.int .i64 (xs.getD ((xs.length : Int) - 1 - i).toNat (0, 0, 0, 0)).2.1) (.cons (.int .i64 (xs.getD ((xs.length : Int) - 1 - i).toNat (0, 0, 0, 0)).2.2.1) (.cons (.int .i64 (xs.getD ((xs.length : Int) - 1 - i).toNat (0, 0, 0, 0)).2.2.2) .nl))))]⟩
  | _, _, _ => none
def f91_live1 : List Nat := [3, 0, 3, 1, 3, 3]
def f91_head1 (xs : List T4.den) (l : Nat) (s3 : Int) (y : Nat) : St := { slots := [AV.fn (Fn.yield l) AV.nl AV.nl, AV.ptr 0 0, AV.undef, AV.int IntKind.i64 s3] ++ List.replicate 15 AV.undef, obs := [Ob.cells 37 [AV.list 47 ((Ty.int IntKind.i64).pair ((Ty.int IntKind.i64).pair ((Ty.int IntKind.i64).pair (Ty.int IntKind.i64)))) xs]], n := 1, y := y }
def f91_q1 (xs : List T4.den) : Ex → St → Prop := blockA 0 (endI tab Try.f91 xs.length)
def f91_loop1 (xs : List T4.den) (l : Nat) (s3 : Int) (y : Nat) : Prop := loopT f91_live1 (codeA tab (eH2.it l xs.length fun i => [AV.int IntKind.i64 ((↑xs.length : Int) - 1 - (↑i : Int)), ((AV.int IntKind.i64 (xs.getD ((↑xs.length : Int) - 1 - (↑i : Int)).toNat (0, 0, 0, 0)).fst).cons ((AV.int IntKind.i64 (xs.getD ((↑xs.length : Int) - 1 - (↑i : Int)).toNat (0, 0, 0, 0)).snd.fst).cons ((AV.int IntKind.i64 (xs.getD ((↑xs.length : Int) - 1 - (↑i : Int)).toNat (0, 0, 0, 0)).snd.snd.fst).cons ((AV.int IntKind.i64 (xs.getD ((↑xs.length : Int) - 1 - (↑i : Int)).toNat (0, 0, 0, 0)).snd.snd.snd).cons AV.nl)))).agg]) (subC [1, 0, 0] (bodyOf Try.f91)) f91_live1) (f91_head1 xs l s3 y) (f91_q1 xs)
def f91_rhs1 (xs : List T4.den) (l : Nat) (J : St → Prop) (s3 : Int) (y : Nat) : Prop := bif decide (s3 ≥ 0) then 0 ≤ s3 ∧ s3 < (↑xs.length : Int) ∧ l = l ∧ false = false ∧ y < xs.length ∧ [AV.int IntKind.i64 s3, ((AV.int IntKind.i64 (xs.getD s3.toNat (0, 0, 0, 0)).fst).cons ((AV.int IntKind.i64 (xs.getD s3.toNat (0, 0, 0, 0)).snd.fst).cons ((AV.int IntKind.i64 (xs.getD s3.toNat (0, 0, 0, 0)).snd.snd.fst).cons ((AV.int IntKind.i64 (xs.getD s3.toNat (0, 0, 0, 0)).snd.snd.snd).cons AV.nl)))).agg] = [AV.int IntKind.i64 ((↑xs.length : Int) - 1 - (↑y : Int)), ((AV.int IntKind.i64 (xs.getD ((↑xs.length : Int) - 1 - (↑y : Int)).toNat (0, 0, 0, 0)).fst).cons ((AV.int IntKind.i64 (xs.getD ((↑xs.length : Int) - 1 - (↑y : Int)).toNat (0, 0, 0, 0)).snd.fst).cons ((AV.int IntKind.i64 (xs.getD ((↑xs.length : Int) - 1 - (↑y : Int)).toNat (0, 0, 0, 0)).snd.snd.fst).cons ((AV.int IntKind.i64 (xs.getD ((↑xs.length : Int) - 1 - (↑y : Int)).toNat (0, 0, 0, 0)).snd.snd.snd).cons AV.nl)))).agg] ∧ J (f91_head1 xs l (IntKind.i64.wrap (s3 - 1)) (y + 1)) ∧ true = true ∧ (true = true ∨ (Nat.add._f Nat.zero PUnit.unit y).succ = xs.length) else true = true ∧ (false = true ∨ y = xs.length)
theorem f91_eq1 (xs : List T4.den) (l : Nat) (J : St → Prop) (s3 : Int) (y : Nat) : codeA tab (eH2.it l xs.length fun i => [AV.int IntKind.i64 ((↑xs.length : Int) - 1 - (↑i : Int)), ((AV.int IntKind.i64 (xs.getD ((↑xs.length : Int) - 1 - (↑i : Int)).toNat (0, 0, 0, 0)).fst).cons ((AV.int IntKind.i64 (xs.getD ((↑xs.length : Int) - 1 - (↑i : Int)).toNat (0, 0, 0, 0)).snd.fst).cons ((AV.int IntKind.i64 (xs.getD ((↑xs.length : Int) - 1 - (↑i : Int)).toNat (0, 0, 0, 0)).snd.snd.fst).cons ((AV.int IntKind.i64 (xs.getD ((↑xs.length : Int) - 1 - (↑i : Int)).toNat (0, 0, 0, 0)).snd.snd.snd).cons AV.nl)))).agg]) (subC [1, 0, 0] (bodyOf Try.f91)) f91_live1 (f91_head1 xs l s3 y) (thenA (fun s => J (St.tidy f91_live1 s)) (f91_q1 xs)) = f91_rhs1 xs l J s3 y := by kernel_rfl
theorem f91_rule1 (xs : List T4.den) (l : Nat) (I : Nat → (Int) → (Nat) → Prop) (n : Nat) (s3 : Int) (y : Nat) (h0 : I n s3 y) (h : ∀ n, ∀ (s3 : Int) (y : Nat), I n s3 y → f91_rhs1 xs l (fun t => ∃ m, m < n ∧ ∃ (s3 : Int) (y : Nat), t = f91_head1 xs l s3 y ∧ I m s3 y) s3 y) : f91_loop1 xs l s3 y :=
  loop_intro (fun n t => ∃ (s3 : Int) (y : Nat), t = f91_head1 xs l s3 y ∧ I n s3 y) n ⟨s3, y, rfl, h0⟩ (fun n t ht => by obtain ⟨s3, y, rfl, hI⟩ := ht; exact Eq.mpr (f91_eq1 xs l (fun t => ∃ m, m < n ∧ ∃ (s3 : Int) (y : Nat), t = f91_head1 xs l s3 y ∧ I m s3 y) s3 y) (h n s3 y hI))
theorem f91_run (xs : List T4.den) (l : Nat) : fnI tab eH2 Try.f91 (bodyOf Try.f91) [] [.ptr 0 0] [.cells 37 [.list 47 T4 xs]] l (xs.length) (fun i => [.int .i64 ((xs.length : Int) - 1 - i), .agg (.cons (.int .i64 (xs.getD ((xs.length : Int) - 1 - i).toNat (0, 0, 0, 0)).1) (.cons (.int .i64 (xs.getD ((xs.length : Int) - 1 - i).toNat (0, 0, 0, 0)).2.1) (.cons (.int .i64 (xs.getD ((xs.length : Int) - 1 - i).toNat (0, 0, 0, 0)).2.2.1) (.cons (.int .i64 (xs.getD ((xs.length : Int) - 1 - i).toNat (0, 0, 0, 0)).2.2.2) .nl))))]) = (f91_loop1 xs l (IntKind.i64.wrap ((↑xs.length : Int) - 1)) 0) := by kernel_rfl
theorem ok91 : ConOk4 Try.prog (91, con91) := by
  intro args caps obs t h hp
  simp only [con91] at h
  split at h
  · rename_i xs
    change List T4.den at xs
    cases h
    refine fn_okI envH2 tab_ok mixed Try.func91 (by kernel_rfl) (by kernel_rfl) ?_
    intro l
    rw [f91_run]
    try dsimp only
    have hm := hp (xs.length ≤ 4096) (by simp)
    refine f91_rule1 xs _ (fun n i y => ∃ k : Nat, k ≤ xs.length ∧ n = xs.length - k ∧ i = (xs.length : Int) - 1 - k ∧ y = k) xs.length _ 0 ⟨0, by omega, by simp, by rw [wrap_id _ (by omega)]; simp, rfl⟩ ?_
    rintro n i y ⟨k, hk, rfl, rfl, rfl⟩
    unfold f91_rhs1
    refine dec_split (fun hlt => ⟨by omega, by omega, rfl, rfl, by omega, rfl, ⟨xs.length - (y + 1), by omega, _, _, rfl, y + 1, by omega, rfl, ?_, rfl⟩, rfl, .inl rfl⟩) (fun hlt => ⟨rfl, .inr ?_⟩)
    · rw [wrap_id _ (by omega)]; omega
    · show y = xs.length
      omega
  · cases h
def consH3 : Cons := (24, con24) :: (29, con29) :: (26, con26) :: (89, con89) :: (64, con64) :: consH2
def twosH3 : Cons2 := (81, con81) :: twosH2
def pansH3 : Cons3 := pansH2
def itersH3 : Cons4 := (91, con91) :: itersH2
abbrev eH3 : Env := envOf4 consH3 twosH3 pansH3 itersH3
theorem allconsH3 : ∀ c ∈ consH3, ConOk Try.prog c := all_cons ok24 (all_cons ok29 (all_cons ok26 (all_cons ok89 (all_cons ok64 allconsH2))))
theorem alltwosH3 : ∀ c ∈ twosH3, ConOk2 Try.prog c := all_cons ok81 alltwosH2
theorem allpansH3 : ∀ c ∈ pansH3, ConOk3 Try.prog c := allpansH2
theorem allitersH3 : ∀ c ∈ itersH3, ConOk4 Try.prog c := all_cons ok91 allitersH2
theorem envH3 : EnvOk Try.prog eH3 := envOf4_ok _ _ _ _ allconsH3 alltwosH3 allpansH3 allitersH3
def lastTo (xs : List Rc4) (x y : Int) : Nat → Int × Bool
  | 0 => (0, false)
  | k + 1 => bif hasP (xs.getD k (0, 0, 0, 0)) x y then (k, true) else lastTo xs x y k
def con80 : List AV → List Ob → Option Tells2
  | [.list 47 (.pair (.int .i64) (.pair (.int .i64) (.pair (.int .i64) (.int .i64)))) xs, .fn (.func 81) .nl (.cons (.ptr 0 0) (.cons (.ptr 1 0) .nl))], [.cells 3 [.int .i64 x], .cells 3 [.int .i64 y]] => some ⟨[xs.length ≤ 4096], .tuple (.cons (.int .i64 ((lastTo xs x y xs.length).1)) (.cons (.bool (lastTo xs x y xs.length).2) .nl)), [none, none], []⟩
  | _, _ => none
def f80_live1 : List Nat := [10, 11, 3, 7, 6, 4, 5, 4, 5, 4, 5]
def f80_head1 (x : Int) (y : Int)  : St := { slots := [AV.undef, AV.undef, AV.undef, AV.ptr 2 0, AV.ptr 3 0, AV.ptr 4 0] ++ List.replicate 10 AV.undef, obs := [Ob.cells 3 [AV.int IntKind.i64 x], Ob.cells 3 [AV.int IntKind.i64 y], Ob.cells 121 [AV.fn (Fn.func 81) AV.nl ((AV.ptr 0 0).cons ((AV.ptr 1 0).cons AV.nl))], Ob.cells 3 [AV.int IntKind.i64 0], Ob.cells 4 [AV.bool false]], n := 2 }
def f80_q1 (R : AV → List Ob → Prop) : Ex → St → Prop := blockA 0 (seqQ tab eH3 (subC [1, 1] (bodyOf Try.f80)) [4, 5] (endA tab Try.f80 R))
def f80_run1 (xs : List T4.den) : Nat → St → (Ex → St → Prop) → Prop := fun i t K => [AV.int IntKind.i64 ((↑xs.length : Int) - 1 - (↑i : Int)), ((AV.int IntKind.i64 (xs.getD ((↑xs.length : Int) - 1 - (↑i : Int)).toNat (0, 0, 0, 0)).fst).cons ((AV.int IntKind.i64 (xs.getD ((↑xs.length : Int) - 1 - (↑i : Int)).toNat (0, 0, 0, 0)).snd.fst).cons ((AV.int IntKind.i64 (xs.getD ((↑xs.length : Int) - 1 - (↑i : Int)).toNat (0, 0, 0, 0)).snd.snd.fst).cons ((AV.int IntKind.i64 (xs.getD ((↑xs.length : Int) - 1 - (↑i : Int)).toNat (0, 0, 0, 0)).snd.snd.snd).cons AV.nl)))).agg].length = [10, 11].length ∧ codeA tab eH3 (subC [1, 0, 1, 0, 0] (bodyOf Try.f80)) [3, 7, 6, 4, 5, 10, 11, 4, 5, 4, 5] (roundSt [10, 11] [AV.int IntKind.i64 ((↑xs.length : Int) - 1 - (↑i : Int)), ((AV.int IntKind.i64 (xs.getD ((↑xs.length : Int) - 1 - (↑i : Int)).toNat (0, 0, 0, 0)).fst).cons ((AV.int IntKind.i64 (xs.getD ((↑xs.length : Int) - 1 - (↑i : Int)).toNat (0, 0, 0, 0)).snd.fst).cons ((AV.int IntKind.i64 (xs.getD ((↑xs.length : Int) - 1 - (↑i : Int)).toNat (0, 0, 0, 0)).snd.snd.fst).cons ((AV.int IntKind.i64 (xs.getD ((↑xs.length : Int) - 1 - (↑i : Int)).toNat (0, 0, 0, 0)).snd.snd.snd).cons AV.nl)))).agg] t) (seqN tab eH3 (subC [1, 0, 1, 0, 1] (bodyOf Try.f80)) [10, 11, 3, 7, 6, 4, 5, 4, 5, 4, 5] K)
def f80_range1 (R : AV → List Ob → Prop) (xs : List T4.den) (x : Int) (y : Int)  : Prop := rangeT f80_live1 (f80_run1 xs) xs.length (f80_head1 x y) (f80_q1 R)
def f80_rhs1 (R : AV → List Ob → Prop) (xs : List T4.den) (x : Int) (y : Int) (J : Nat → St → Prop) (i : Nat)  : Prop := [AV.int IntKind.i64 ((↑xs.length : Int) - 1 - (↑i : Int)), ((AV.int IntKind.i64 (xs.getD ((↑xs.length : Int) - 1 - (↑i : Int)).toNat (0, 0, 0, 0)).fst).cons ((AV.int IntKind.i64 (xs.getD ((↑xs.length : Int) - 1 - (↑i : Int)).toNat (0, 0, 0, 0)).snd.fst).cons ((AV.int IntKind.i64 (xs.getD ((↑xs.length : Int) - 1 - (↑i : Int)).toNat (0, 0, 0, 0)).snd.snd.fst).cons ((AV.int IntKind.i64 (xs.getD ((↑xs.length : Int) - 1 - (↑i : Int)).toNat (0, 0, 0, 0)).snd.snd.snd).cons AV.nl)))).agg].length = [10, 11].length ∧ bif hasP ((xs.getD ((↑xs.length : Int) - 1 - (↑i : Int)).toNat (0, 0, 0, 0)).fst, (xs.getD ((↑xs.length : Int) - 1 - (↑i : Int)).toNat (0, 0, 0, 0)).snd.fst, (xs.getD ((↑xs.length : Int) - 1 - (↑i : Int)).toNat (0, 0, 0, 0)).snd.snd.fst, (xs.getD ((↑xs.length : Int) - 1 - (↑i : Int)).toNat (0, 0, 0, 0)).snd.snd.snd) x y then R ((AV.int IntKind.i64 ((↑xs.length : Int) - 1 - (↑i : Int))).cons ((AV.bool true).cons AV.nl)).tuple [Ob.cells 3 [AV.int IntKind.i64 x], Ob.cells 3 [AV.int IntKind.i64 y]] else J (i + 1) (f80_head1 x y)
theorem f80_eq1 (R : AV → List Ob → Prop) (xs : List T4.den) (x : Int) (y : Int) (J : Nat → St → Prop) (i : Nat)  : f80_run1 xs i (f80_head1 x y) (roundK f80_live1 J (f80_q1 R) i (f80_head1 x y)) = f80_rhs1 R xs x y J i  := by kernel_rfl
def f80_end1 (R : AV → List Ob → Prop) (xs : List T4.den) (x : Int) (y : Int)  : Prop := R ((AV.int IntKind.i64 0).cons ((AV.bool false).cons AV.nl)).tuple [Ob.cells 3 [AV.int IntKind.i64 x], Ob.cells 3 [AV.int IntKind.i64 y]]
theorem f80_eqe1 (R : AV → List Ob → Prop) (xs : List T4.den) (x : Int) (y : Int)  : f80_q1 R Ex.normal (f80_head1 x y) = f80_end1 R xs x y  := by kernel_rfl
theorem f80_rule1 (R : AV → List Ob → Prop) (xs : List T4.den) (x : Int) (y : Int) (I : Nat → Prop)  (h0 : I 0 ) (h : ∀ i, i < xs.length → I i  → f80_rhs1 R xs x y (fun n t => t = f80_head1 x y  ∧ I n ) i ) (hend : I (xs.length)  → f80_end1 R xs x y ) : f80_range1 R xs x y  :=
  range_intro (fun n t => t = f80_head1 x y  ∧ I n ) ⟨rfl, h0⟩ (fun i t hi ht => by obtain ⟨rfl, hI⟩ := ht; exact Eq.mpr (f80_eq1 R xs x y (fun n t => t = f80_head1 x y  ∧ I n ) i ) (h i  hi hI)) (fun t ht => by obtain ⟨rfl, hI⟩ := ht; exact Eq.mpr (f80_eqe1 R xs x y ) (hend  hI))
theorem f80_run (R : AV → List Ob → Prop) (xs : List T4.den) (x y : Int) : fnB tab eH3 Try.f80 (bodyOf Try.f80) [.list 47 T4 xs, .fn (.func 81) .nl (.cons (.ptr 0 0) (.cons (.ptr 1 0) .nl))] [.cells 3 [.int .i64 x], .cells 3 [.int .i64 y]] R = (xs.length ≤ 4096 ∧ f80_range1 R xs x y) := by kernel_rfl
theorem ok80 : ConOk2 Try.prog (80, con80) := by
  intro args obs t h hp
  simp only [con80] at h
  split at h
  · rename_i xs x y
    change List T4.den at xs
    cases h
    refine fn_ok2 envH3 tab_ok mixed Try.func80 (by kernel_rfl) (by kernel_rfl) ?_
    rw [f80_run]
    try dsimp only
    have hm := hp (xs.length ≤ 4096) (by simp)
    refine ⟨hm, ?_⟩
    refine f80_rule1 _ xs x y (fun i => lastTo xs x y xs.length = lastTo xs x y (xs.length - i)) rfl ?_ ?_
    · intro i hi hI
      unfold f80_rhs1
      have e : ((xs.length : Int) - 1 - i).toNat = xs.length - (i + 1) := by omega
      have e2 : xs.length - i = (xs.length - (i + 1)) + 1 := by omega
      rw [e2] at hI
      simp only [lastTo] at hI
      rw [e]
      refine ⟨rfl, cond_split (fun hc => ?_) (fun hc => ?_)⟩
      · have hc' : hasP (xs.getD (xs.length - (i + 1)) (0, 0, 0, 0)) x y = true := hc
        rw [hc', cond_true] at hI
        rw [hI]
        exact ⟨by rw [show ((xs.length - (i + 1) : Nat) : Int) = (xs.length : Int) - 1 - i by omega], rfl⟩
      · have hc' : hasP (xs.getD (xs.length - (i + 1)) (0, 0, 0, 0)) x y = false := hc
        rw [hc', cond_false] at hI
        exact ⟨rfl, hI⟩
    · intro hI
      rw [Nat.sub_self] at hI
      unfold f80_end1
      rw [hI]
      exact ⟨rfl, rfl⟩
  · cases h
def consH4 : Cons := consH3
def twosH4 : Cons2 := (80, con80) :: twosH3
def pansH4 : Cons3 := pansH3
def itersH4 : Cons4 := itersH3
abbrev eH4 : Env := envOf4 consH4 twosH4 pansH4 itersH4
theorem allconsH4 : ∀ c ∈ consH4, ConOk Try.prog c := allconsH3
theorem alltwosH4 : ∀ c ∈ twosH4, ConOk2 Try.prog c := all_cons ok80 alltwosH3
theorem allpansH4 : ∀ c ∈ pansH4, ConOk3 Try.prog c := allpansH3
theorem allitersH4 : ∀ c ∈ itersH4, ConOk4 Try.prog c := allitersH3
theorem envH4 : EnvOk Try.prog eH4 := envOf4_ok _ _ _ _ allconsH4 alltwosH4 allpansH4 allitersH4
def con63 : List AV → Option Tells
  | [.agg (.cons (.list 47 (.pair (.int .i64) (.pair (.int .i64) (.pair (.int .i64) (.int .i64)))) xs) (.cons (.list 106 (.pair (.int .i64) (.pair (.pair (.int .i64) (.pair (.int .i64) (.pair (.int .i64) (.int .i64)))) (.pair (.int .i64) (.int .i64)))) ls) .nl)), .int .i64 x, .int .i64 y] => some ⟨[xs.length ≤ 4096], .tuple (.cons (.int .i64 ((lastTo xs x y xs.length).1)) (.cons (.bool (lastTo xs x y xs.length).2) .nl)), []⟩
  | _ => none
theorem f63_run (R : AV → List Ob → Prop) (xs : List T4.den) (ls : List TL.den) (x y : Int) : fnA tab eH4 Try.f63 (bodyOf Try.f63) [.agg (.cons (.list 47 T4 xs) (.cons (.list 106 TL ls) .nl)), .int .i64 x, .int .i64 y] R = (xs.length ≤ 4096 ∧ R ((AV.int IntKind.i64 (lastTo xs x y xs.length).fst).cons ((AV.bool (lastTo xs x y xs.length).snd).cons AV.nl)).tuple []) := by kernel_rfl
theorem ok63 : ConOk Try.prog (63, con63) := by
  intro args t h hp
  simp only [con63] at h
  split at h
  · rename_i xs ls x y
    change List T4.den at xs
    change List TL.den at ls
    cases h
    refine fn_ok envH4 tab_ok mixed Try.func63 (by kernel_rfl) (by kernel_rfl) ?_
    rw [f63_run]
    try dsimp only
    exact ⟨hp (xs.length ≤ 4096) (by simp), rfl, rfl⟩
  · cases h
def consH5 : Cons := (63, con63) :: consH4
def twosH5 : Cons2 := twosH4
def pansH5 : Cons3 := pansH4
def itersH5 : Cons4 := itersH4
abbrev eH5 : Env := envOf4 consH5 twosH5 pansH5 itersH5
theorem allconsH5 : ∀ c ∈ consH5, ConOk Try.prog c := all_cons ok63 allconsH4
theorem alltwosH5 : ∀ c ∈ twosH5, ConOk2 Try.prog c := alltwosH4
theorem allpansH5 : ∀ c ∈ pansH5, ConOk3 Try.prog c := allpansH4
theorem allitersH5 : ∀ c ∈ itersH5, ConOk4 Try.prog c := allitersH4
theorem envH5 : EnvOk Try.prog eH5 := envOf4_ok _ _ _ _ allconsH5 alltwosH5 allpansH5 allitersH5
def con25 : List AV → Option Tells
  | [] => some ⟨[], AV.bool true, []⟩
  | _ => none
theorem f25_run (R : AV → List Ob → Prop)  : fnA tab eH5 Try.f25 (bodyOf Try.f25) [] R = (Nat.le 2 4096 ∧ Nat.le 2 4096 ∧ R (AV.bool true) []) := by kernel_rfl
theorem ok25 : ConOk Try.prog (25, con25) := by
  intro args t h hp
  simp only [con25] at h
  split at h
  · cases h
    refine fn_ok envH5 tab_ok mixed Try.func25 (by kernel_rfl) (by kernel_rfl) ?_
    rw [f25_run]
    exact ⟨Nat.le_of_ble_eq_true rfl, ⟨Nat.le_of_ble_eq_true rfl, ⟨rfl, rfl⟩⟩⟩
  · cases h
def consH6 : Cons := (25, con25) :: consH5
def twosH6 : Cons2 := twosH5
def pansH6 : Cons3 := pansH5
def itersH6 : Cons4 := itersH5
abbrev eH6 : Env := envOf4 consH6 twosH6 pansH6 itersH6
theorem allconsH6 : ∀ c ∈ consH6, ConOk Try.prog c := all_cons ok25 allconsH5
theorem alltwosH6 : ∀ c ∈ twosH6, ConOk2 Try.prog c := alltwosH5
theorem allpansH6 : ∀ c ∈ pansH6, ConOk3 Try.prog c := allpansH5
theorem allitersH6 : ∀ c ∈ itersH6, ConOk4 Try.prog c := allitersH5
theorem envH6 : EnvOk Try.prog eH6 := envOf4_ok _ _ _ _ allconsH6 alltwosH6 allpansH6 allitersH6
def shW (d e : Int) (r : Rc4) : Rc4 := (IntKind.wrap .i64 (r.1 + IntKind.wrap .i64 d), IntKind.wrap .i64 (r.2.1 + IntKind.wrap .i64 e), IntKind.wrap .i64 (r.2.2.1 + IntKind.wrap .i64 d), IntKind.wrap .i64 (r.2.2.2 + IntKind.wrap .i64 e))
theorem near_bd {r : Rc4} (h : nearR r = true) : (-288230376151711744 ≤ r.1 ∧ r.1 ≤ 288230376151711744) ∧ (-288230376151711744 ≤ r.2.1 ∧ r.2.1 ≤ 288230376151711744) ∧ (-288230376151711744 ≤ r.2.2.1 ∧ r.2.2.1 ≤ 288230376151711744) ∧ (-288230376151711744 ≤ r.2.2.2 ∧ r.2.2.2 ≤ 288230376151711744) := by
  simp [nearR, near] at h
  omega
theorem hasP_sh (r : Rc4) (x y d e : Int) (h : nearR r = true) (hd : -32768 ≤ d ∧ d ≤ 32767) (he : -32768 ≤ e ∧ e ≤ 32767) : hasP (shW d e r) (x + d) (y + e) = hasP r x y := by
  have hb := near_bd h
  simp only [shW, hasP, wrap_id d (by omega), wrap_id e (by omega), wrap_id (r.1 + d) (by omega), wrap_id (r.2.1 + e) (by omega), wrap_id (r.2.2.1 + d) (by omega), wrap_id (r.2.2.2 + e) (by omega)]
  congr 1
  · congr 1
    · rw [decide_eq_decide]; omega
    · rw [decide_eq_decide]; omega
  · congr 1
    · rw [decide_eq_decide]; omega
    · rw [decide_eq_decide]; omega
theorem hits_sh (xs : List Rc4) (x y d e : Int) (h : xs.all nearR = true) (hd : -32768 ≤ d ∧ d ≤ 32767) (he : -32768 ≤ e ∧ e ≤ 32767) : ∀ k, k ≤ xs.length → hitsTo (xs.map (shW d e)) (x + d) (y + e) k = hitsTo xs x y k
  | 0, _ => rfl
  | k + 1, hk => by
    simp only [hitsTo]
    rw [hits_sh xs x y d e h hd he k (by omega), getD_nat' _ _ k (by rw [List.length_map]; omega), getD_nat' _ _ k (by omega), List.getElem_map]
    have hk' : k < xs.length := by omega
    rw [hasP_sh _ _ _ _ _ (List.all_eq_true.1 h _ (List.getElem_mem hk')) hd he]
theorem hits_lt (xs : List Rc4) (x y : Int) : ∀ k, ∀ i ∈ hitsTo xs x y k, 0 ≤ i ∧ i < k
  | 0, i, h => by simp [hitsTo] at h
  | k + 1, i, h => by
    simp only [hitsTo, List.mem_append] at h
    rcases h with h | h
    · have := hits_lt xs x y k i h; omega
    · cases hc : hasP (xs.getD k (0, 0, 0, 0)) x y <;> rw [hc] at h
      · simp at h
      · simp at h; omega
theorem hits_out (xs : List Rc4) (x y : Int) (m : Nat) (hm : m < xs.length) : ∀ k, k ≤ xs.length → hitsTo (xs.set m (0, 0, 0, 0)) x y k = (hitsTo xs x y k).filter (fun i => i != (m : Int))
  | 0, _ => rfl
  | k + 1, hk => by
    simp only [hitsTo]
    rw [hits_out xs x y m hm k (by omega), List.filter_append]
    congr 1
    have hk' : k < xs.length := by omega
    rw [getD_nat' _ _ k (by rw [List.length_set]; omega), getD_nat' _ _ k hk', List.getElem_set]
    by_cases e : m = k
    · subst e
      rw [if_pos rfl]
      have h0 : hasP (0, 0, 0, 0) x y = false := by
        simp only [hasP, Bool.and_eq_false_iff, decide_eq_false_iff_not]
        omega
      rw [h0, cond_false]
      cases hasP xs[m] x y
      · rfl
      · simp
    · rw [if_neg e]
      cases hasP xs[k] x y
      · rfl
      · simp only [cond_true]
        rw [List.filter_cons_of_pos (by simp; omega)]
        rfl
theorem filter_next (l : List Int) (m : Int) (j : Nat) (h : j < l.length) : (l.take (j + 1)).filter (fun i => i != m) = (l.take j).filter (fun i => i != m) ++ bif l.getD j 0 != m then [l.getD j 0] else [] := by
  rw [take_next l j h, List.filter_append, getD_nat' l 0 j h]
  congr 1
def f5_live1 : List Nat := [44, 43, 42, 44, 16, 3, 4, 16, 44, 16, 1, 3, 2, 4, 15, 0, 15, 5, 0, 13, 15, 13, 1, 2, 12]
def f5_head1 (xs : List T4.den) (x : Int) (y : Int) (d : Int) (e : Int) (o : Int) (s44 : Int) (o5 : List (Int × Int × Int × Int)) : St := { slots := [AV.list 45 ((Ty.int IntKind.i64).pair ((Ty.int IntKind.i64).pair ((Ty.int IntKind.i64).pair (Ty.int IntKind.i64)))) xs, AV.int IntKind.i16 x, AV.int IntKind.i16 y, AV.int IntKind.i16 d, AV.int IntKind.i16 e, AV.int IntKind.u8 o] ++ List.replicate 6 AV.undef ++ [AV.bool false, AV.ptr 0 0, AV.undef, AV.row 1, AV.ptr 2 0] ++ List.replicate 25 AV.undef ++ [AV.list 45 ((Ty.int IntKind.i64).pair ((Ty.int IntKind.i64).pair ((Ty.int IntKind.i64).pair (Ty.int IntKind.i64)))) xs, AV.int IntKind.i64 (↑xs.length : Int), AV.int IntKind.i64 s44] ++ List.replicate 69 AV.undef, obs := [Ob.cells 40 [AV.row 3, AV.row 4], Ob.row 3 (Ty.int IntKind.i64) (hits (bif xs.all nearR then xs else []) (IntKind.i64.wrap x) (IntKind.i64.wrap y)), Ob.cells 40 [AV.row 5, AV.row 6], Ob.row 47 ((Ty.int IntKind.i64).pair ((Ty.int IntKind.i64).pair ((Ty.int IntKind.i64).pair (Ty.int IntKind.i64)))) (bif xs.all nearR then xs else []), Ob.row 106 ((Ty.int IntKind.i64).pair (((Ty.int IntKind.i64).pair ((Ty.int IntKind.i64).pair ((Ty.int IntKind.i64).pair (Ty.int IntKind.i64)))).pair ((Ty.int IntKind.i64).pair (Ty.int IntKind.i64)))) [], Ob.row 47 ((Ty.int IntKind.i64).pair ((Ty.int IntKind.i64).pair ((Ty.int IntKind.i64).pair (Ty.int IntKind.i64)))) o5, Ob.row 106 ((Ty.int IntKind.i64).pair (((Ty.int IntKind.i64).pair ((Ty.int IntKind.i64).pair ((Ty.int IntKind.i64).pair (Ty.int IntKind.i64)))).pair ((Ty.int IntKind.i64).pair (Ty.int IntKind.i64)))) []] }
def f5_q1 (R : AV → List Ob → Prop) : Ex → St → Prop := blockA 0 (seqQ tab eH6 (subC [1, 1, 1, 1, 1, 1] (bodyOf Try.f5)) [12] (endA tab Try.f5 R))
def f5_loop1 (R : AV → List Ob → Prop) (xs : List T4.den) (x : Int) (y : Int) (d : Int) (e : Int) (o : Int) (s44 : Int) (o5 : List (Int × Int × Int × Int)) : Prop := loopT f5_live1 (codeA tab eH6 (subC [1, 1, 1, 1, 1, 0, 1, 0, 0] (bodyOf Try.f5)) f5_live1) (f5_head1 xs x y d e o s44 o5) (f5_q1 R)
def f5_live2 : List Nat := [94, 93, 92, 94, 19, 20, 94, 13, 1, 2, 20, 12]
def f5_head2 (xs : List T4.den) (x : Int) (y : Int) (o : Int) (s94' : Int) (o1' : List Int) : St := { slots := [AV.undef, AV.int IntKind.i16 x, AV.int IntKind.i16 y] ++ List.replicate 9 AV.undef ++ [AV.bool false, AV.ptr 0 0] ++ List.replicate 5 AV.undef ++ [AV.int IntKind.i64 ((IntKind.i64.wrap o).tmod (↑xs.length : Int)), AV.row 1] ++ List.replicate 71 AV.undef ++ [AV.row 2, AV.int IntKind.i64 (↑(hits (bif xs.all nearR then xs else []) (IntKind.i64.wrap x) (IntKind.i64.wrap y)).length : Int), AV.int IntKind.i64 s94'] ++ List.replicate 19 AV.undef, obs := [Ob.cells 40 [AV.row 3, AV.row 4], Ob.row 3 (Ty.int IntKind.i64) o1', Ob.row 3 (Ty.int IntKind.i64) (hits (bif xs.all nearR then xs else []) (IntKind.i64.wrap x) (IntKind.i64.wrap y)), Ob.row 47 ((Ty.int IntKind.i64).pair ((Ty.int IntKind.i64).pair ((Ty.int IntKind.i64).pair (Ty.int IntKind.i64)))) ((bif xs.all nearR then xs else []).set ((IntKind.i64.wrap o).tmod (↑xs.length : Int)).toNat (0, 0, 0, 0)), Ob.row 106 ((Ty.int IntKind.i64).pair (((Ty.int IntKind.i64).pair ((Ty.int IntKind.i64).pair ((Ty.int IntKind.i64).pair (Ty.int IntKind.i64)))).pair ((Ty.int IntKind.i64).pair (Ty.int IntKind.i64)))) []] }
def f5_q2 (R : AV → List Ob → Prop) : Ex → St → Prop := blockA 2 (seqQ tab eH6 (subC [1, 1, 1, 1, 1, 1, 1, 1, 1, 1, 1, 1] (bodyOf Try.f5)) [12] (endA tab Try.f5 R))
def f5_loop2 (R : AV → List Ob → Prop) (xs : List T4.den) (x : Int) (y : Int) (o : Int) (s94' : Int) (o1' : List Int) : Prop := loopT f5_live2 (codeA tab eH6 (subC [1, 1, 1, 1, 1, 1, 1, 1, 1, 1, 1, 0, 1, 0, 0] (bodyOf Try.f5)) f5_live2) (f5_head2 xs x y o s94' o1') (f5_q2 R)
def f5_rhs2 (R : AV → List Ob → Prop) (xs : List T4.den) (x : Int) (y : Int) (o : Int) (J1 : St → Prop) (s94' : Int) (o1' : List Int) : Prop := bif decide (s94' < (↑(hits (bif xs.all nearR then xs else []) (IntKind.i64.wrap x) (IntKind.i64.wrap y)).length : Int)) then 0 ≤ s94' ∧ s94' < (↑(hits (bif xs.all nearR then xs else []) (IntKind.i64.wrap x) (IntKind.i64.wrap y)).length : Int) ∧ bif (hits (bif xs.all nearR then xs else []) (IntKind.i64.wrap x) (IntKind.i64.wrap y)).getD s94'.toNat 0 != (IntKind.i64.wrap o).tmod (↑xs.length : Int) then (o1'.length + 1) * 8 ≤ 140737488355328 ∧ J1 (f5_head2 xs x y o (IntKind.i64.wrap (s94' + 1)) (o1' ++ [(hits (bif xs.all nearR then xs else []) (IntKind.i64.wrap x) (IntKind.i64.wrap y)).getD s94'.toNat 0])) else J1 (f5_head2 xs x y o (IntKind.i64.wrap (s94' + 1)) o1') else ((bif xs.all nearR then xs else []).set ((IntKind.i64.wrap o).tmod (↑xs.length : Int)).toNat (0, 0, 0, 0)).length ≤ 4096 ∧ (hits ((bif xs.all nearR then xs else []).set ((IntKind.i64.wrap o).tmod (↑xs.length : Int)).toNat (0, 0, 0, 0)) (IntKind.i64.wrap x) (IntKind.i64.wrap y)).length ≤ 9223372036854775807 ∧ R (AV.bool (decide (hits ((bif xs.all nearR then xs else []).set ((IntKind.i64.wrap o).tmod (↑xs.length : Int)).toNat (0, 0, 0, 0)) (IntKind.i64.wrap x) (IntKind.i64.wrap y) = o1'))) []
theorem f5_eq2 (R : AV → List Ob → Prop) (xs : List T4.den) (x : Int) (y : Int) (o : Int) (J1 : St → Prop) (s94' : Int) (o1' : List Int) : codeA tab eH6 (subC [1, 1, 1, 1, 1, 1, 1, 1, 1, 1, 1, 0, 1, 0, 0] (bodyOf Try.f5)) f5_live2 (f5_head2 xs x y o s94' o1') (thenA (fun s => J1 (St.tidy f5_live2 s)) (f5_q2 R)) = f5_rhs2 R xs x y o J1 s94' o1' := by kernel_rfl
theorem f5_rule2 (R : AV → List Ob → Prop) (xs : List T4.den) (x : Int) (y : Int) (o : Int) (I : Nat → (Int) → (List Int) → Prop) (n : Nat) (s94' : Int) (o1' : List Int) (h0 : I n s94' o1') (h : ∀ n, ∀ (s94' : Int) (o1' : List Int), I n s94' o1' → f5_rhs2 R xs x y o (fun t => ∃ m, m < n ∧ ∃ (s94' : Int) (o1' : List Int), t = f5_head2 xs x y o s94' o1' ∧ I m s94' o1') s94' o1') : f5_loop2 R xs x y o s94' o1' :=
  loop_intro (fun n t => ∃ (s94' : Int) (o1' : List Int), t = f5_head2 xs x y o s94' o1' ∧ I n s94' o1') n ⟨s94', o1', rfl, h0⟩ (fun n t ht => by obtain ⟨s94', o1', rfl, hI⟩ := ht; exact Eq.mpr (f5_eq2 R xs x y o (fun t => ∃ m, m < n ∧ ∃ (s94' : Int) (o1' : List Int), t = f5_head2 xs x y o s94' o1' ∧ I m s94' o1') s94' o1') (h n s94' o1' hI))
def f5_rhs1 (R : AV → List Ob → Prop) (xs : List T4.den) (x : Int) (y : Int) (d : Int) (e : Int) (o : Int) (J : St → Prop) (s44 : Int) (o5 : List (Int × Int × Int × Int)) : Prop := bif decide (s44 < (↑xs.length : Int)) then 0 ≤ s44 ∧ s44 < (↑xs.length : Int) ∧ (o5.length + 1) * 32 ≤ 140737488355328 ∧ J (f5_head1 xs x y d e o (IntKind.i64.wrap (s44 + 1)) (o5 ++ [(IntKind.i64.wrap ((xs.getD s44.toNat (0, 0, 0, 0)).fst + IntKind.i64.wrap d), IntKind.i64.wrap ((xs.getD s44.toNat (0, 0, 0, 0)).snd.fst + IntKind.i64.wrap e), IntKind.i64.wrap ((xs.getD s44.toNat (0, 0, 0, 0)).snd.snd.fst + IntKind.i64.wrap d), IntKind.i64.wrap ((xs.getD s44.toNat (0, 0, 0, 0)).snd.snd.snd + IntKind.i64.wrap e))])) else o5.length ≤ 4096 ∧ (hits o5 (IntKind.i64.wrap (IntKind.i64.wrap x + IntKind.i64.wrap d)) (IntKind.i64.wrap (IntKind.i64.wrap y + IntKind.i64.wrap e))).length ≤ 9223372036854775807 ∧ bif !decide (hits o5 (IntKind.i64.wrap (IntKind.i64.wrap x + IntKind.i64.wrap d)) (IntKind.i64.wrap (IntKind.i64.wrap y + IntKind.i64.wrap e)) = hits (bif xs.all nearR then xs else []) (IntKind.i64.wrap x) (IntKind.i64.wrap y)) then R (AV.bool false) [] else bif (↑xs.length : Int) == 0 then R (AV.bool ((↑(hits (bif xs.all nearR then xs else []) (IntKind.i64.wrap x) (IntKind.i64.wrap y)).length : Int) == 0)) [] else (↑xs.length : Int) ≠ 0 ∧ 0 ≤ (IntKind.i64.wrap o).tmod (↑xs.length : Int) ∧ (IntKind.i64.wrap o).tmod (↑xs.length : Int) < (↑(bif xs.all nearR then xs else []).length : Int) ∧ f5_loop2 R xs x y o 0 []
theorem f5_eq1 (R : AV → List Ob → Prop) (xs : List T4.den) (x : Int) (y : Int) (d : Int) (e : Int) (o : Int) (J : St → Prop) (s44 : Int) (o5 : List (Int × Int × Int × Int)) : codeA tab eH6 (subC [1, 1, 1, 1, 1, 0, 1, 0, 0] (bodyOf Try.f5)) f5_live1 (f5_head1 xs x y d e o s44 o5) (thenA (fun s => J (St.tidy f5_live1 s)) (f5_q1 R)) = f5_rhs1 R xs x y d e o J s44 o5 := by kernel_rfl
theorem f5_rule1 (R : AV → List Ob → Prop) (xs : List T4.den) (x : Int) (y : Int) (d : Int) (e : Int) (o : Int) (I : Nat → (Int) → (List (Int × Int × Int × Int)) → Prop) (n : Nat) (s44 : Int) (o5 : List (Int × Int × Int × Int)) (h0 : I n s44 o5) (h : ∀ n, ∀ (s44 : Int) (o5 : List (Int × Int × Int × Int)), I n s44 o5 → f5_rhs1 R xs x y d e o (fun t => ∃ m, m < n ∧ ∃ (s44 : Int) (o5 : List (Int × Int × Int × Int)), t = f5_head1 xs x y d e o s44 o5 ∧ I m s44 o5) s44 o5) : f5_loop1 R xs x y d e o s44 o5 :=
  loop_intro (fun n t => ∃ (s44 : Int) (o5 : List (Int × Int × Int × Int)), t = f5_head1 xs x y d e o s44 o5 ∧ I n s44 o5) n ⟨s44, o5, rfl, h0⟩ (fun n t ht => by obtain ⟨s44, o5, rfl, hI⟩ := ht; exact Eq.mpr (f5_eq1 R xs x y d e o (fun t => ∃ m, m < n ∧ ∃ (s44 : Int) (o5 : List (Int × Int × Int × Int)), t = f5_head1 xs x y d e o s44 o5 ∧ I m s44 o5) s44 o5) (h n s44 o5 hI))
theorem f5_run (R : AV → List Ob → Prop) (xs : List T4.den) (x y d e : Int) (o : Int) : fnA tab eH6 Try.f5 (bodyOf Try.f5) [.list 45 T4 xs, .int .i16 x, .int .i16 y, .int .i16 d, .int .i16 e, .int .u8 o] R = (xs.length * 32 ≤ 140737488355328 ∧ bif !(xs.all nearR && decide (xs.length ≤ 40)) then R (AV.bool true) [] else (bif xs.all nearR then xs else []).length ≤ 4096 ∧ f5_loop1 R xs x y d e o 0 []) := by kernel_rfl
theorem law5' (xs : List Rc4) (x y d e o : Int) (hx : xs.length ≤ maxLen) (hr : xs.length * 32 ≤ 140737488355328) (bx : -32768 ≤ x ∧ x ≤ 32767) (by_ : -32768 ≤ y ∧ y ≤ 32767) (bd : -32768 ≤ d ∧ d ≤ 32767) (be : -32768 ≤ e ∧ e ≤ 32767) (bo : 0 ≤ o ∧ o ≤ 255) :
    ACalls Try.prog 5 [.list 45 T4 xs, .int .i16 x, .int .i16 y, .int .i16 d, .int .i16 e, .int .u8 o] (.bool true) [] := by
  refine fn_ok envH6 tab_ok mixed Try.func5 (by kernel_rfl) (by kernel_rfl) ?_
  rw [f5_run]
  refine ⟨hr, cond_split (fun _ => ⟨rfl, rfl⟩) (fun g => ?_)⟩
  have g' : xs.all nearR = true ∧ xs.length ≤ 40 := by
    rw [Bool.not_eq_false', Bool.and_eq_true, decide_eq_true_eq] at g
    exact g
  obtain ⟨hall, hlen⟩ := g'
  rw [hall, cond_true]
  refine ⟨by omega, ?_⟩
  have hml : ∀ (ys : List Rc4) (a b : Int), ys.length ≤ 4096 → (hits ys a b).length ≤ 9223372036854775807 := fun ys a b h => by
    have := hitsTo_len ys a b ys.length
    simp only [hits]
    omega
  refine f5_rule1 _ xs x y d e o (fun n i l => ∃ k : Nat, k ≤ xs.length ∧ n = xs.length - k ∧ i = k ∧ l = (xs.take k).map (shW d e)) xs.length 0 [] ⟨0, by omega, by simp, rfl, by simp⟩ ?_
  rintro n i l ⟨k, hk, rfl, rfl, rfl⟩
  unfold f5_rhs1
  refine dec_split (fun hlt => ⟨by omega, hlt, by simp only [List.length_map, List.length_take]; omega, ?_⟩) (fun hlt => ?_)
  · have hlt' : k < xs.length := by omega
    refine ⟨xs.length - (k + 1), by omega, _, _, rfl, k + 1, by omega, rfl, wrap_next k _ hlt' hx, ?_⟩
    rw [take_next xs k hlt', List.map_append, getD_nat xs _ k hlt']
    rfl
  rw [take_all xs k (by omega)]
  rw [hall, cond_true, wrap_id x (by omega), wrap_id y (by omega), wrap_id d (by omega), wrap_id e (by omega), wrap_id (x + d) (by omega), wrap_id (y + e) (by omega), wrap_id o (by omega)]
  have hsame : hits (xs.map (shW d e)) (x + d) (y + e) = hits xs x y := by
    simp only [hits, List.length_map]
    exact hits_sh xs x y d e hall bd be xs.length (Nat.le_refl _)
  refine ⟨by rw [List.length_map]; omega, hml _ _ _ (by rw [List.length_map]; omega), cond_no (by rw [hsame]; simp) ?_⟩
  refine cond_split (fun h0 => ⟨?_, rfl⟩) (fun h0 => ?_)
  · have : xs = [] := by simp at h0; exact h0
    subst this
    rfl
  have hne : xs.length ≠ 0 := by simp at h0; intro h; exact h0 (List.length_eq_zero_iff.1 h)
  have hm0 : 0 ≤ o.tmod (xs.length : Int) := Int.tmod_nonneg _ bo.1
  have hm1 : o.tmod (xs.length : Int) < (xs.length : Int) := Int.tmod_lt_of_pos _ (by omega)
  refine ⟨by omega, hm0, hm1, ?_⟩
  obtain ⟨m, hm⟩ := Int.eq_ofNat_of_zero_le hm0
  have hall' : (hits xs x y).length ≤ 40 := Nat.le_trans (hitsTo_len xs x y xs.length) hlen
  refine f5_rule2 _ xs x y o (fun n i l => ∃ k : Nat, k ≤ (hits xs x y).length ∧ n = (hits xs x y).length - k ∧ i = k ∧ l = ((hits xs x y).take k).filter (fun i => i != (m : Int))) (hits xs x y).length 0 [] ⟨0, by omega, by simp, rfl, by simp⟩ ?_
  rintro n i l ⟨k, hk, rfl, rfl, rfl⟩
  unfold f5_rhs2
  rw [hall, cond_true, wrap_id x (by omega), wrap_id y (by omega), wrap_id o (by omega), hm]
  have hfl : (((hits xs x y).take k).filter (fun i => i != (m : Int))).length ≤ 40 := Nat.le_trans (List.length_filter_le _ _) (by rw [List.length_take]; omega)
  refine dec_split (fun hlt => ⟨by omega, hlt, ?_⟩) (fun hlt => ?_)
  · have hlt' : k < (hits xs x y).length := by omega
    have hf := filter_next (hits xs x y) m k hlt'
    rw [wrap_next k _ hlt' (by simp only [maxLen]; omega)]
    refine cond_split (fun hc => ⟨by omega, (hits xs x y).length - (k + 1), by omega, _, _, rfl, k + 1, by omega, rfl, rfl, ?_⟩) (fun hc => ⟨(hits xs x y).length - (k + 1), by omega, _, _, rfl, k + 1, by omega, rfl, rfl, ?_⟩)
    · have hc' : ((hits xs x y).getD k 0 != (m : Int)) = true := hc
      rw [hf, hc', cond_true]
      rfl
    · have hc' : ((hits xs x y).getD k 0 != (m : Int)) = false := hc
      rw [hf, hc', cond_false, List.append_nil]
  · rw [take_all (hits xs x y) k (by omega)]
    refine ⟨by rw [List.length_set]; omega, hml _ _ _ (by rw [List.length_set]; omega), ?_, rfl⟩
    rw [decide_eq_true]
    simp only [hits, List.length_set]
    exact hits_out xs x y m (by omega) xs.length (Nat.le_refl _)
theorem law5 (x : ArgsDen [(false, .list 45 T4), (false, .int .i16), (false, .int .i16), (false, .int .i16), (false, .int .i16), (false, .int .u8)]) (h : OkArgs [(false, .list 45 T4), (false, .int .i16), (false, .int .i16), (false, .int .i16), (false, .int .i16), (false, .int .u8)] x) (hz : RoomArgs Try.prog [35, 36, 36, 36, 36, 5] [(false, .list 45 T4), (false, .int .i16), (false, .int .i16), (false, .int .i16), (false, .int .i16), (false, .int .u8)] x) : ACalls Try.prog 5 (argsA [(false, .list 45 T4), (false, .int .i16), (false, .int .i16), (false, .int .i16), (false, .int .i16), (false, .int .u8)] x) (.bool true) [] := by
  obtain ⟨xs, a, b, c, d, o, _⟩ := x
  obtain ⟨⟨h1, _⟩, h2, h3, h4, h5, h6, _⟩ := h
  have hr := hz.1 (by kernel_rfl)
  rw [show Try.prog.bytesOf 45 = 32 by kernel_rfl] at hr
  exact law5' xs a b c d o h1 (Nat.le_trans hr (by decide)) (i16_of a h2) (i16_of b h3) (i16_of c h4) (i16_of d h5) (u8_of o h6)

end Go.Proofs.Ytjhhkfjabaojhaa.W
