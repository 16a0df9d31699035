/- Layer 20's statements: where they begin. -/
import Derived.Test.YtkpjcmiijlpcaaaWa
import Derived.Test.YtkpjcmiijlpcaaaEa
import Derived.Test.YtkpjcmiijlpcaaaFa
import Derived.Test.YtkpjcmiijlpcaaaFb
import Derived.Test.YtkpjcmiijlpcaaaFc
import Derived.Test.YtkpjcmiijlpcaaaFd
import Derived.Test.YtkpjcmiijlpcaaaFe
import Derived.Test.YtkpjcmiijlpcaaaFf
import Derived.Test.YtkpjcmiijlpcaaaFg
import Derived.Test.YtkpjcmiijlpcaaaFh
import Derived.Test.YtkpjcmiijlpcaaaFi
import Derived.Test.YtkpjcmiijlpcaaaFj
import Derived.Test.YtkpjcmiijlpcaaaFk
import Derived.Test.YtkpjcmiijlpcaaaPa
import Derived.Test.YtkpjcmiijlpcaaaPb
import Derived.Test.YtkpjcmiijlpcaaaPc
import Derived.Test.YtkpjcmiijlpcaaaAwZ
import Derived.KernelRfl
set_option linter.unusedVariables false
set_option linter.unusedSimpArgs false
namespace Go.Proofs.Ytkpjcmiijlpcaaa.W
open Go Go.Proofs Go.Proofs.Ytkpjcmiijlpcaaa.Aw
noncomputable section
def consB0 : Cons := (33, con33) :: (34, con34) :: []
def twosB0 : Cons2 := []
def pansB0 : Cons3 := []
def itersB0 : Cons4 := []
abbrev eB0 : Env := envOf4 consB0 twosB0 pansB0 itersB0
theorem allconsB0 : ∀ c ∈ consB0, ConOk Try.prog c := all_cons ok33 (all_cons ok34 all_nil)
theorem alltwosB0 : ∀ c ∈ twosB0, ConOk2 Try.prog c := all_nil
theorem allpansB0 : ∀ c ∈ pansB0, ConOk3 Try.prog c := all_nil
theorem allitersB0 : ∀ c ∈ itersB0, ConOk4 Try.prog c := all_nil
theorem envB0 : EnvOk Try.prog eB0 := envOf4_ok _ _ _ _ allconsB0 alltwosB0 allpansB0 allitersB0
def con35_q : List AV → Option Tells
  | [.list 35 (.pair (.int .i64) (.pair (.int .i64) (.pair (.int .i64) (.pair (.int .i64) (.pair (.int .i64) (.pair (.int .i64) (.pair (.pair (.int .i64) (.pair (.int .i64) (.pair (.int .i64) (.int .i64)))) (.pair (.int .i64) (.pair (.int .i64) (.pair (.int .i64) (.int .i64))))))))))) l, .int .i64 i] => some ⟨[0 ≤ i, i < (l.length : Int), i ≤ 65536], .int .i64 (blk (parFrom l (IntKind.i64.wrap ((l.getD i.toNat zBx).1 - 1)) i.toNat)), []⟩
  | _ => none
def f35_q_live1 : List Nat := [5, 0, 5, 0, 1, 5, 5, 4]
def f35_q_head1 (l : List TB.den) (i : Int) (s5 : Int) : St := { slots := [AV.list 35 TB l, AV.int IntKind.i64 i, AV.undef, AV.undef, AV.int IntKind.i64 0, AV.int IntKind.i64 s5] ++ List.replicate 19 AV.undef, obs := [] }
def f35_q_q1 (R : AV → List Ob → Prop) : Ex → St → Prop := blockA 0 (seqQ tab eB0 (subC [1, 1] (bodyOf Try.f35)) [4] (endA tab Try.f35 R))
def f35_q_loop1 (R : AV → List Ob → Prop) (l : List TB.den) (i : Int) (s5 : Int) : Prop := loopT f35_q_live1 (codeA tab eB0 (subC [1, 0, 1, 0, 0] (bodyOf Try.f35)) f35_q_live1) (f35_q_head1 l i s5) (f35_q_q1 R)
def f35_q_rhs1 (R : AV → List Ob → Prop) (l : List TB.den) (i : Int) (J : St → Prop) (s5 : Int) : Prop := bif decide (s5 ≥ 0) then 0 ≤ s5 ∧ s5 < (↑l.length : Int) ∧ 0 ≤ i ∧ i < (↑l.length : Int) ∧ bif (l.getD s5.toNat (0, 0, 0, 0, 0, 0, (0, 0, 0, 0), 0, 0, 0, 0)).fst == IntKind.i64.wrap ((l.getD i.toNat (0, 0, 0, 0, 0, 0, (0, 0, 0, 0), 0, 0, 0, 0)).fst - 1) then R (AV.int IntKind.i64 s5) [] else J (f35_q_head1 l i (IntKind.i64.wrap (s5 - 1))) else R (AV.int IntKind.i64 (-1)) []
theorem f35_q_eq1 (R : AV → List Ob → Prop) (l : List TB.den) (i : Int) (J : St → Prop) (s5 : Int) : codeA tab eB0 (subC [1, 0, 1, 0, 0] (bodyOf Try.f35)) f35_q_live1 (f35_q_head1 l i s5) (thenA (fun s => J (St.tidy f35_q_live1 s)) (f35_q_q1 R)) = f35_q_rhs1 R l i J s5 := by kernel_rfl
theorem f35_q_rule1 (R : AV → List Ob → Prop) (l : List TB.den) (i : Int) (I : Nat → (Int) → Prop) (n : Nat) (s5 : Int) (h0 : I n s5) (h : ∀ n, ∀ (s5 : Int), I n s5 → f35_q_rhs1 R l i (fun t => ∃ m, m < n ∧ ∃ (s5 : Int), t = f35_q_head1 l i s5 ∧ I m s5) s5) : f35_q_loop1 R l i s5 :=
  loop_intro (fun n t => ∃ (s5 : Int), t = f35_q_head1 l i s5 ∧ I n s5) n ⟨s5, rfl, h0⟩ (fun n t ht => by obtain ⟨s5, rfl, hI⟩ := ht; exact Eq.mpr (f35_q_eq1 R l i (fun t => ∃ m, m < n ∧ ∃ (s5 : Int), t = f35_q_head1 l i s5 ∧ I m s5) s5) (h n s5 hI))
theorem f35_q_run (R : AV → List Ob → Prop) (l : List TB.den) (i : Int) : fnA tab eB0 Try.f35 (bodyOf Try.f35) [.list 35 TB l, .int .i64 i] R = (f35_q_loop1 R l i (IntKind.i64.wrap (i - 1))) := by kernel_rfl
theorem ok35_q : ConOk Try.prog (35, con35_q) := by
  intro args t h hp
  change con35_q args = some t at h
  unfold con35_q at h
  split at h
  · rename_i l i
    change List TB.den at l
    cases h
    refine fn_ok envB0 tab_ok mixed Try.func35 (by kernel_rfl) (by kernel_rfl) ?_
    rw [f35_q_run]
    try dsimp only
    have h0 := hp (0 ≤ i) (by simp)
    have h1 := hp (i < (l.length : Int)) (by simp)
    have h2 := hp (i ≤ 65536) (by simp)
    clear hp
    rw [blk_eq, wrap_id (i - 1) (by omega)]
    refine f35_q_rule1 _ l i (fun n s => ∃ k : Nat, k ≤ i.toNat ∧ n = k ∧ s = (k : Int) - 1 ∧ parFrom l (IntKind.i64.wrap ((l.getD i.toNat zBx).1 - 1)) i.toNat = parFrom l (IntKind.i64.wrap ((l.getD i.toNat zBx).1 - 1)) k) i.toNat _ ⟨i.toNat, Nat.le_refl _, rfl, by omega, rfl⟩ ?_
    rintro n s ⟨k, hk, rfl, rfl, hpar⟩
    unfold f35_q_rhs1
    refine dec_split (fun hlt => ?_) (fun hlt => ?_)
    · obtain ⟨j, rfl⟩ : ∃ j, n = j + 1 := ⟨n - 1, by omega⟩
      have e : (((j + 1 : Nat) : Int) - 1) = (j : Int) := by omega
      rw [e, Int.toNat_natCast]
      simp only [parFrom] at hpar
      refine ⟨by omega, by omega, h0, h1, cond_split (fun hc => ?_) (fun hc => ?_)⟩
      · rw [hpar, show ((l.getD j zBx).1 == _) = true from hc]
        exact ⟨rfl, rfl⟩
      · rw [show ((l.getD j zBx).1 == _) = false from hc] at hpar
        exact ⟨j, by omega, _, rfl, j, by omega, rfl, wrap_id _ (by omega), hpar⟩
    · have : n = 0 := by omega
      subst this
      rw [hpar]
      exact ⟨rfl, rfl⟩
  · cases h
def consB1 : Cons := (35, con35_q) :: consB0
def twosB1 : Cons2 := twosB0
def pansB1 : Cons3 := pansB0
def itersB1 : Cons4 := itersB0
abbrev eB1 : Env := envOf4 consB1 twosB1 pansB1 itersB1
theorem allconsB1 : ∀ c ∈ consB1, ConOk Try.prog c := all_cons ok35_q allconsB0
theorem alltwosB1 : ∀ c ∈ twosB1, ConOk2 Try.prog c := alltwosB0
theorem allpansB1 : ∀ c ∈ pansB1, ConOk3 Try.prog c := allpansB0
theorem allitersB1 : ∀ c ∈ itersB1, ConOk4 Try.prog c := allitersB0
theorem envB1 : EnvOk Try.prog eB1 := envOf4_ok _ _ _ _ allconsB1 alltwosB1 allpansB1 allitersB1
def c33b (b : Bx) : Int := c33 b.1 b.2.1 b.2.2.1 b.2.2.2.1 b.2.2.2.2.1 b.2.2.2.2.2.1 b.2.2.2.2.2.2.1.1 b.2.2.2.2.2.2.1.2.1 b.2.2.2.2.2.2.1.2.2.1 b.2.2.2.2.2.2.1.2.2.2 b.2.2.2.2.2.2.2.1 b.2.2.2.2.2.2.2.2.1 b.2.2.2.2.2.2.2.2.2.1 b.2.2.2.2.2.2.2.2.2.2
def rootX (b : Bx) : Bool := bif !(b.1 != 0) then (bif !(b.2.1 != 3) then (bif !decide (b.2.2.2.2.1 < 0) then (bif !(b.2.2.2.1 != 0) then !(b.2.2.2.2.2.2.1.1 == 0 && (b.2.2.2.2.2.2.1.2.1 == 0 && (b.2.2.2.2.2.2.1.2.2.1 == 0 && (b.2.2.2.2.2.2.1.2.2.2 == 0 && true)))) else true) else true) else true) else true
def nestX (d d0 : Int) : Bool := bif !(d == 0) then decide (d > IntKind.i64.wrap (d0 + 1)) else true
def ck6 (l : List Bx) (i : Nat) : Int :=
  bif (i : Int) == 65536 then 3 else bif c33b (l.getD i zBx) != 0 then c33b (l.getD i zBx) else
  bif (i : Int) == 0 then (bif rootX (l.getD i zBx) then 12 else 0) else
  bif nestX (l.getD i zBx).1 (l.getD (i - 1) zBx).1 then 12 else
  bif !fits4 (l.getD (parFrom l (IntKind.i64.wrap ((l.getD i zBx).1 - 1)) i).toNat zBx).2.1 (l.getD i zBx).2.1 then 12 else 0
def chkFrom (l : List Bx) : Nat → Nat → Int × Int
  | 0, _ => (-1, 0)
  | f + 1, i => bif ck6 l i != 0 then ((i : Int), ck6 l i) else chkFrom l f (i + 1)
def chk6 (l : List Bx) : Int × Int := bif (l.length : Int) == 0 then (-1, 15) else chkFrom l l.length 0
theorem c33b_ok {b : Bx} (h : c33b b = 0) : OkBx b.1 b.2.1 b.2.2.1 b.2.2.2.1 b.2.2.2.2.1 b.2.2.2.2.2.1 b.2.2.2.2.2.2.1.1 b.2.2.2.2.2.2.1.2.1 b.2.2.2.2.2.2.1.2.2.1 b.2.2.2.2.2.2.1.2.2.2 b.2.2.2.2.2.2.2.1 b.2.2.2.2.2.2.2.2.1 b.2.2.2.2.2.2.2.2.2.1 b.2.2.2.2.2.2.2.2.2.2 := z33 _ _ _ _ _ _ _ _ _ _ _ _ _ _ h
theorem bne_zero {x : Int} (h : (x != 0) = false) : x = 0 := by simpa using h
theorem ck6_zero {l : List Bx} {i : Nat} (h : ck6 l i = 0) : i ≠ 65536 ∧ c33b (l.getD i zBx) = 0 ∧ (i = 0 → rootX (l.getD i zBx) = false) ∧ (0 < i → nestX (l.getD i zBx).1 (l.getD (i - 1) zBx).1 = false ∧ fits4 (l.getD (parFrom l (IntKind.i64.wrap ((l.getD i zBx).1 - 1)) i).toNat zBx).2.1 (l.getD i zBx).2.1 = true) := by
  unfold ck6 at h
  cases h1 : ((i : Int) == 65536) with
  | true => rw [h1] at h; cases h
  | false =>
    have h1' : i ≠ 65536 := fun e => by rw [e] at h1; cases h1
    rw [h1, cond_false] at h
    cases h2 : (c33b (l.getD i zBx) != 0) with
    | true => rw [h2, cond_true] at h; rw [h] at h2; cases h2
    | false =>
      have h2' := bne_zero h2
      rw [h2, cond_false] at h
      cases h3 : ((i : Int) == 0) with
      | true =>
        have hi : i = 0 := by simpa using h3
        rw [h3, cond_true] at h
        refine ⟨h1', h2', fun _ => ?_, fun e => by omega⟩
        cases h4 : rootX (l.getD i zBx) with
        | true => rw [h4] at h; cases h
        | false => rfl
      | false =>
        have hi : i ≠ 0 := by simpa using h3
        rw [h3, cond_false] at h
        refine ⟨h1', h2', fun e => absurd e hi, fun _ => ?_⟩
        cases h4 : nestX (l.getD i zBx).1 (l.getD (i - 1) zBx).1 with
        | true => rw [h4] at h; cases h
        | false =>
          rw [h4, cond_false] at h
          cases h5 : fits4 (l.getD (parFrom l (IntKind.i64.wrap ((l.getD i zBx).1 - 1)) i).toNat zBx).2.1 (l.getD i zBx).2.1 with
          | false => rw [h5] at h; cases h
          | true => exact ⟨rfl, rfl⟩
theorem nestX_no {d d0 : Int} (h : nestX d d0 = false) : d ≠ 0 ∧ d ≤ IntKind.i64.wrap (d0 + 1) := by
  unfold nestX at h
  cases h1 : (d == 0) with
  | true => rw [h1] at h; cases h
  | false =>
    rw [h1] at h
    exact ⟨beq_eq_false_iff_ne.1 h1, by have := of_decide_eq_false h; omega⟩
theorem ck_depth {l : List Bx} {i : Nat} (h : ck6 l i = 0) (hp : 0 < i → c33b (l.getD (i - 1) zBx) = 0) : 0 ≤ (l.getD i zBx).1 ∧ (l.getD i zBx).1 ≤ 256 ∧ (i = 0 → (l.getD i zBx).1 = 0) ∧ (0 < i → 1 ≤ (l.getD i zBx).1 ∧ (l.getD i zBx).1 ≤ (l.getD (i - 1) zBx).1 + 1) := by
  obtain ⟨h1, h2, h3, h4⟩ := ck6_zero h
  have hd := (c33b_ok h2).depth
  refine ⟨hd.1, hd.2, fun e => ?_, fun e => ?_⟩
  · have := h3 e
    unfold rootX at this
    cases h5 : ((l.getD i zBx).1 != 0) with
    | true => rw [h5] at this; cases this
    | false => exact bne_zero h5
  · obtain ⟨g1, g2⟩ := nestX_no (h4 e).1
    have hd0 := (c33b_ok (hp e)).depth
    rw [wrap_id _ (by omega)] at g2
    omega
theorem parFrom_spec (l : List Bx) (d : Int) : ∀ k, (∃ m, m < k ∧ (l.getD m zBx).1 = d) → ∃ m : Nat, m < k ∧ parFrom l d k = m ∧ (l.getD m zBx).1 = d
  | 0, ⟨m, h, _⟩ => by omega
  | k + 1, ⟨m, h, hm⟩ => by
    simp only [parFrom]
    cases hc : ((l.getD k zBx).1 == d) with
    | true => exact ⟨k, by omega, rfl, beq_iff_eq.1 hc⟩
    | false =>
      have hne : m ≠ k := fun e => by rw [e] at hm; rw [hm] at hc; simp at hc
      obtain ⟨m', h1, h2, h3⟩ := parFrom_spec l d k ⟨m, by omega, hm⟩
      exact ⟨m', by omega, h2, h3⟩
theorem ladder {l : List Bx} : ∀ k, (∀ j, j < k → ck6 l j = 0) → 0 < k → ∀ v : Int, 0 ≤ v → v ≤ (l.getD (k - 1) zBx).1 → ∃ m, m < k ∧ (l.getD m zBx).1 = v
  | 0, _, h, _, _, _ => by omega
  | k + 1, hc, _, v, h0, hv => by
    have hd := ck_depth (hc k (by omega)) (fun e => (ck6_zero (hc (k - 1) (by omega))).2.1)
    rw [Nat.add_sub_cancel] at hv
    by_cases e : v = (l.getD k zBx).1
    · exact ⟨k, by omega, e.symm⟩
    · rcases Nat.eq_zero_or_pos k with hk | hk
      · have := hd.2.2.1 hk; omega
      · have h4 := hd.2.2.2 hk
        obtain ⟨m, h1, h2⟩ := ladder k (fun j hj => hc j (by omega)) hk v h0 (by omega)
        exact ⟨m, by omega, h2⟩
theorem par_pos {l : List Bx} {k : Nat} (hc : ∀ j, j < k → ck6 l j = 0) (hk : 0 < k) (h1 : nestX (l.getD k zBx).1 (l.getD (k - 1) zBx).1 = false) (h2 : c33b (l.getD k zBx) = 0) :
    IntKind.i64.wrap ((l.getD k zBx).1 - 1) = (l.getD k zBx).1 - 1 ∧ ∃ m : Nat, m < k ∧ parFrom l ((l.getD k zBx).1 - 1) k = m ∧ (l.getD m zBx).1 = (l.getD k zBx).1 - 1 := by
  have hd := (c33b_ok h2).depth
  have hp := (ck6_zero (hc (k - 1) (by omega))).2.1
  have hd0 := (c33b_ok hp).depth
  obtain ⟨g1, g2⟩ := nestX_no h1
  rw [wrap_id _ (by omega)] at g2
  refine ⟨wrap_id _ (by omega), parFrom_spec l _ k (ladder k hc hk _ (by omega) (by omega))⟩
theorem chkFrom_step {l : List Bx} {k : Nat} (hk : k < l.length) (h : chk6 l = chkFrom l (l.length - k) k) : (ck6 l k ≠ 0 → chk6 l = ((k : Int), ck6 l k)) ∧ (ck6 l k = 0 → chk6 l = chkFrom l (l.length - (k + 1)) (k + 1)) := by
  obtain ⟨f, hf⟩ : ∃ f, l.length - k = f + 1 := ⟨l.length - k - 1, by omega⟩
  rw [hf] at h
  simp only [chkFrom] at h
  refine ⟨fun e => ?_, fun e => ?_⟩
  · rw [h, show (ck6 l k != 0) = true by simpa using e]; rfl
  · rw [h, e, show l.length - (k + 1) = f by omega]; rfl
theorem root_all6 {K4 K3 : Prop} (b : Bx) (h4 : rootX b = true → K4) (h3 : rootX b = false → K3) : bif !(b.1 != 0) then bif !(b.2.1 != 3) then bif !decide (b.2.2.2.2.1 < 0) then bif !(b.2.2.2.1 != 0) then (bif !(b.2.2.2.2.2.2.1.1 == 0 && (b.2.2.2.2.2.2.1.2.1 == 0 && (b.2.2.2.2.2.2.1.2.2.1 == 0 && (b.2.2.2.2.2.2.1.2.2.2 == 0 && true)))) then K4 else K3) else K4 else K4 else K4 else K4 := by
  unfold rootX at h3 h4
  generalize (!(b.1 != 0)) = c1 at *
  generalize (!(b.2.1 != 3)) = c2 at *
  generalize (!decide (b.2.2.2.2.1 < 0)) = c3 at *
  generalize (!(b.2.2.2.1 != 0)) = c4 at *
  generalize (!(b.2.2.2.2.2.2.1.1 == 0 && (b.2.2.2.2.2.2.1.2.1 == 0 && (b.2.2.2.2.2.2.1.2.2.1 == 0 && (b.2.2.2.2.2.2.1.2.2.2 == 0 && true))))) = c5 at *
  cases c1 <;> cases c2 <;> cases c3 <;> cases c4 <;> cases c5 <;> first | exact h4 rfl | exact h3 rfl
def con23 : List AV → Option Tells
  | [.list 35 (.pair (.int .i64) (.pair (.int .i64) (.pair (.int .i64) (.pair (.int .i64) (.pair (.int .i64) (.pair (.int .i64) (.pair (.pair (.int .i64) (.pair (.int .i64) (.pair (.int .i64) (.int .i64)))) (.pair (.int .i64) (.pair (.int .i64) (.pair (.int .i64) (.int .i64))))))))))) l] => some ⟨[], .tuple (.cons (.int .i64 ((blk (chk6 l)).1)) (.cons (.int .i64 ((blk (chk6 l)).2)) .nl)), []⟩
  | _ => none
def f23_cuts : List Nat := [6, 15]
def f23_live1 : List Nat := [4, 0, 0, 4, 4, 4, 4, 4, 0, 4, 4, 0, 0, 4, 4, 4, 2, 3]
def f23_head1 (l : List TB.den) (s4 : Int) : St := { slots := [AV.list 35 TB l, AV.undef, AV.int IntKind.i64 0, AV.int IntKind.i64 0, AV.int IntKind.i64 s4] ++ List.replicate 78 AV.undef, obs := [] }
def f23_q1 (R : AV → List Ob → Prop) : Ex → St → Prop := blockA 0 (seqQ tab (eB1.cut f23_cuts) (subC [1, 1, 1] (bodyOf Try.f23)) [2, 3] (endA tab Try.f23 R))
def f23_loop1 (R : AV → List Ob → Prop) (l : List TB.den) (s4 : Int) : Prop := loopT f23_live1 (codeA tab (eB1.cut f23_cuts) (subC [1, 1, 0, 1, 0, 0] (bodyOf Try.f23)) f23_live1) (f23_head1 l s4) (f23_q1 R)
set_option maxHeartbeats 2000000 in
def f23_j2 (R : AV → List Ob → Prop) (l : List TB.den) (s4 : Int) (J : St → Prop)  : Prop := Meet (fun s => codeA tab (eB1.cut f23_cuts) (subC [1, 1, 0, 1, 0, 0, 1, 0, 0, 1, 1, 1, 0, 1, 0, 0, 1] (bodyOf Try.f23)) [5, 5, 0, 4, 4, 0, 0, 4, 5, 4, 4, 4, 0, 0, 4, 4, 4, 4, 4, 0, 4, 4, 0, 0, 4, 4, 4, 2, 3] s (seqQ tab (eB1.cut f23_cuts) (subC [1, 1, 0, 1, 0, 0, 1, 0, 0, 1, 1, 1, 0, 1, 0, 1] (bodyOf Try.f23)) [5, 5, 0, 4, 4, 0, 0, 4, 5, 4, 4, 4, 0, 0, 4, 4, 4, 4, 4, 0, 4, 4, 0, 0, 4, 4, 4, 2, 3] (seqQ tab (eB1.cut f23_cuts) (subC [1, 1, 0, 1, 0, 0, 1, 0, 0, 1, 1, 1, 1] (bodyOf Try.f23)) [4, 4, 0, 0, 4, 4, 4, 4, 4, 0, 4, 4, 0, 0, 4, 4, 4, 2, 3] (blockA 1 (seqQ tab (eB1.cut f23_cuts) (subC [1, 1, 0, 1, 0, 0, 1, 1] (bodyOf Try.f23)) [4, 0, 0, 4, 4, 4, 4, 4, 0, 4, 4, 0, 0, 4, 4, 4, 2, 3] (thenA (fun s => J (St.tidy f23_live1 s)) (blockA 0 (seqQ tab (eB1.cut f23_cuts) (subC [1, 1, 1] (bodyOf Try.f23)) [2, 3] (endA tab Try.f23 R))))))))) { slots := [AV.list 35 TB l, AV.undef, AV.int IntKind.i64 0, AV.int IntKind.i64 0, AV.int IntKind.i64 s4, AV.ptr 0 0] ++ List.replicate 48 AV.undef ++ [AV.bool !((l.getD s4.toNat (0, 0, 0, 0, 0, 0, (0, 0, 0, 0), 0, 0, 0, 0)).snd.snd.snd.snd.snd.snd.fst.fst == 0 && ((l.getD s4.toNat (0, 0, 0, 0, 0, 0, (0, 0, 0, 0), 0, 0, 0, 0)).snd.snd.snd.snd.snd.snd.fst.snd.fst == 0 && ((l.getD s4.toNat (0, 0, 0, 0, 0, 0, (0, 0, 0, 0), 0, 0, 0, 0)).snd.snd.snd.snd.snd.snd.fst.snd.snd.fst == 0 && ((l.getD s4.toNat (0, 0, 0, 0, 0, 0, (0, 0, 0, 0), 0, 0, 0, 0)).snd.snd.snd.snd.snd.snd.fst.snd.snd.snd == 0 && true))))] ++ List.replicate 28 AV.undef, obs := [Ob.cells 35 [AV.int IntKind.i64 (l.getD s4.toNat (0, 0, 0, 0, 0, 0, (0, 0, 0, 0), 0, 0, 0, 0)).fst, AV.int IntKind.i64 (l.getD s4.toNat (0, 0, 0, 0, 0, 0, (0, 0, 0, 0), 0, 0, 0, 0)).snd.fst, AV.int IntKind.i64 (l.getD s4.toNat (0, 0, 0, 0, 0, 0, (0, 0, 0, 0), 0, 0, 0, 0)).snd.snd.fst, AV.int IntKind.i64 (l.getD s4.toNat (0, 0, 0, 0, 0, 0, (0, 0, 0, 0), 0, 0, 0, 0)).snd.snd.snd.fst, AV.int IntKind.i64 (l.getD s4.toNat (0, 0, 0, 0, 0, 0, (0, 0, 0, 0), 0, 0, 0, 0)).snd.snd.snd.snd.fst, AV.int IntKind.i64 (l.getD s4.toNat (0, 0, 0, 0, 0, 0, (0, 0, 0, 0), 0, 0, 0, 0)).snd.snd.snd.snd.snd.fst, AV.int IntKind.i64 (l.getD s4.toNat (0, 0, 0, 0, 0, 0, (0, 0, 0, 0), 0, 0, 0, 0)).snd.snd.snd.snd.snd.snd.fst.fst, AV.int IntKind.i64 (l.getD s4.toNat (0, 0, 0, 0, 0, 0, (0, 0, 0, 0), 0, 0, 0, 0)).snd.snd.snd.snd.snd.snd.fst.snd.fst, AV.int IntKind.i64 (l.getD s4.toNat (0, 0, 0, 0, 0, 0, (0, 0, 0, 0), 0, 0, 0, 0)).snd.snd.snd.snd.snd.snd.fst.snd.snd.fst, AV.int IntKind.i64 (l.getD s4.toNat (0, 0, 0, 0, 0, 0, (0, 0, 0, 0), 0, 0, 0, 0)).snd.snd.snd.snd.snd.snd.fst.snd.snd.snd, AV.int IntKind.i64 (l.getD s4.toNat (0, 0, 0, 0, 0, 0, (0, 0, 0, 0), 0, 0, 0, 0)).snd.snd.snd.snd.snd.snd.snd.fst, AV.int IntKind.i64 (l.getD s4.toNat (0, 0, 0, 0, 0, 0, (0, 0, 0, 0), 0, 0, 0, 0)).snd.snd.snd.snd.snd.snd.snd.snd.fst, AV.int IntKind.i64 (l.getD s4.toNat (0, 0, 0, 0, 0, 0, (0, 0, 0, 0), 0, 0, 0, 0)).snd.snd.snd.snd.snd.snd.snd.snd.snd.fst, AV.int IntKind.i64 (l.getD s4.toNat (0, 0, 0, 0, 0, 0, (0, 0, 0, 0), 0, 0, 0, 0)).snd.snd.snd.snd.snd.snd.snd.snd.snd.snd]] }
def f23_j3 (R : AV → List Ob → Prop) (l : List TB.den) (s4 : Int) (J : St → Prop)  : Prop := Meet (fun s => codeA tab (eB1.cut f23_cuts) (subC [1, 1, 0, 1, 0, 0, 1, 1] (bodyOf Try.f23)) [4, 0, 0, 4, 4, 4, 4, 4, 0, 4, 4, 0, 0, 4, 4, 4, 2, 3] s (thenA (fun s => J (St.tidy f23_live1 s)) (blockA 0 (seqQ tab (eB1.cut f23_cuts) (subC [1, 1, 1] (bodyOf Try.f23)) [2, 3] (endA tab Try.f23 R))))) { slots := [AV.list 35 TB l, AV.undef, AV.int IntKind.i64 0, AV.int IntKind.i64 0, AV.int IntKind.i64 s4] ++ List.replicate 78 AV.undef, obs := [] }
theorem f23_jeq3 (R : AV → List Ob → Prop) (l : List TB.den) (s4 : Int) (J : St → Prop)  : f23_j3 R l s4 J  = (J (f23_head1 l (IntKind.i64.wrap (s4 + 1)))) := (meet_eq _ _).trans (by kernel_rfl)
theorem f23_jeq2 (R : AV → List Ob → Prop) (l : List TB.den) (s4 : Int) (J : St → Prop)  : f23_j2 R l s4 J  = (bif !((l.getD s4.toNat (0, 0, 0, 0, 0, 0, (0, 0, 0, 0), 0, 0, 0, 0)).snd.snd.snd.snd.snd.snd.fst.fst == 0 && ((l.getD s4.toNat (0, 0, 0, 0, 0, 0, (0, 0, 0, 0), 0, 0, 0, 0)).snd.snd.snd.snd.snd.snd.fst.snd.fst == 0 && ((l.getD s4.toNat (0, 0, 0, 0, 0, 0, (0, 0, 0, 0), 0, 0, 0, 0)).snd.snd.snd.snd.snd.snd.fst.snd.snd.fst == 0 && ((l.getD s4.toNat (0, 0, 0, 0, 0, 0, (0, 0, 0, 0), 0, 0, 0, 0)).snd.snd.snd.snd.snd.snd.fst.snd.snd.snd == 0 && true)))) then R ((AV.int IntKind.i64 0).cons ((AV.int IntKind.i64 12).cons AV.nl)).tuple [] else f23_j3 R l s4 J) := (meet_eq _ _).trans (by kernel_rfl)
set_option maxHeartbeats 2000000 in
def f23_j4 (R : AV → List Ob → Prop) (l : List TB.den) (s4 : Int) (J : St → Prop)  : Prop := Meet (fun s => codeA tab (eB1.cut f23_cuts) (subC [1, 1, 0, 1, 0, 0, 1, 0, 0, 1, 1, 1, 0, 1, 0, 0, 1] (bodyOf Try.f23)) [5, 5, 0, 4, 4, 0, 0, 4, 5, 4, 4, 4, 0, 0, 4, 4, 4, 4, 4, 0, 4, 4, 0, 0, 4, 4, 4, 2, 3] s (seqQ tab (eB1.cut f23_cuts) (subC [1, 1, 0, 1, 0, 0, 1, 0, 0, 1, 1, 1, 0, 1, 0, 1] (bodyOf Try.f23)) [5, 5, 0, 4, 4, 0, 0, 4, 5, 4, 4, 4, 0, 0, 4, 4, 4, 4, 4, 0, 4, 4, 0, 0, 4, 4, 4, 2, 3] (seqQ tab (eB1.cut f23_cuts) (subC [1, 1, 0, 1, 0, 0, 1, 0, 0, 1, 1, 1, 1] (bodyOf Try.f23)) [4, 4, 0, 0, 4, 4, 4, 4, 4, 0, 4, 4, 0, 0, 4, 4, 4, 2, 3] (blockA 1 (seqQ tab (eB1.cut f23_cuts) (subC [1, 1, 0, 1, 0, 0, 1, 1] (bodyOf Try.f23)) [4, 0, 0, 4, 4, 4, 4, 4, 0, 4, 4, 0, 0, 4, 4, 4, 2, 3] (thenA (fun s => J (St.tidy f23_live1 s)) (blockA 0 (seqQ tab (eB1.cut f23_cuts) (subC [1, 1, 1] (bodyOf Try.f23)) [2, 3] (endA tab Try.f23 R))))))))) { slots := [AV.list 35 TB l, AV.undef, AV.int IntKind.i64 0, AV.int IntKind.i64 0, AV.int IntKind.i64 s4, AV.ptr 0 0] ++ List.replicate 48 AV.undef ++ [AV.bool true] ++ List.replicate 28 AV.undef, obs := [Ob.cells 35 [AV.int IntKind.i64 (l.getD s4.toNat (0, 0, 0, 0, 0, 0, (0, 0, 0, 0), 0, 0, 0, 0)).fst, AV.int IntKind.i64 (l.getD s4.toNat (0, 0, 0, 0, 0, 0, (0, 0, 0, 0), 0, 0, 0, 0)).snd.fst, AV.int IntKind.i64 (l.getD s4.toNat (0, 0, 0, 0, 0, 0, (0, 0, 0, 0), 0, 0, 0, 0)).snd.snd.fst, AV.int IntKind.i64 (l.getD s4.toNat (0, 0, 0, 0, 0, 0, (0, 0, 0, 0), 0, 0, 0, 0)).snd.snd.snd.fst, AV.int IntKind.i64 (l.getD s4.toNat (0, 0, 0, 0, 0, 0, (0, 0, 0, 0), 0, 0, 0, 0)).snd.snd.snd.snd.fst, AV.int IntKind.i64 (l.getD s4.toNat (0, 0, 0, 0, 0, 0, (0, 0, 0, 0), 0, 0, 0, 0)).snd.snd.snd.snd.snd.fst, AV.int IntKind.i64 (l.getD s4.toNat (0, 0, 0, 0, 0, 0, (0, 0, 0, 0), 0, 0, 0, 0)).snd.snd.snd.snd.snd.snd.fst.fst, AV.int IntKind.i64 (l.getD s4.toNat (0, 0, 0, 0, 0, 0, (0, 0, 0, 0), 0, 0, 0, 0)).snd.snd.snd.snd.snd.snd.fst.snd.fst, AV.int IntKind.i64 (l.getD s4.toNat (0, 0, 0, 0, 0, 0, (0, 0, 0, 0), 0, 0, 0, 0)).snd.snd.snd.snd.snd.snd.fst.snd.snd.fst, AV.int IntKind.i64 (l.getD s4.toNat (0, 0, 0, 0, 0, 0, (0, 0, 0, 0), 0, 0, 0, 0)).snd.snd.snd.snd.snd.snd.fst.snd.snd.snd, AV.int IntKind.i64 (l.getD s4.toNat (0, 0, 0, 0, 0, 0, (0, 0, 0, 0), 0, 0, 0, 0)).snd.snd.snd.snd.snd.snd.snd.fst, AV.int IntKind.i64 (l.getD s4.toNat (0, 0, 0, 0, 0, 0, (0, 0, 0, 0), 0, 0, 0, 0)).snd.snd.snd.snd.snd.snd.snd.snd.fst, AV.int IntKind.i64 (l.getD s4.toNat (0, 0, 0, 0, 0, 0, (0, 0, 0, 0), 0, 0, 0, 0)).snd.snd.snd.snd.snd.snd.snd.snd.snd.fst, AV.int IntKind.i64 (l.getD s4.toNat (0, 0, 0, 0, 0, 0, (0, 0, 0, 0), 0, 0, 0, 0)).snd.snd.snd.snd.snd.snd.snd.snd.snd.snd]] }
theorem f23_jeq4 (R : AV → List Ob → Prop) (l : List TB.den) (s4 : Int) (J : St → Prop)  : f23_j4 R l s4 J  = (R ((AV.int IntKind.i64 0).cons ((AV.int IntKind.i64 12).cons AV.nl)).tuple []) := (meet_eq _ _).trans (by kernel_rfl)
set_option maxHeartbeats 2000000 in
def f23_rhs1 (R : AV → List Ob → Prop) (l : List TB.den) (J : St → Prop) (s4 : Int) : Prop := bif decide (s4 < (↑l.length : Int)) then 0 ≤ s4 ∧ s4 < (↑l.length : Int) ∧ bif s4 == 65536 then R ((AV.int IntKind.i64 s4).cons ((AV.int IntKind.i64 3).cons AV.nl)).tuple [] else bif blk (c33 (l.getD s4.toNat (0, 0, 0, 0, 0, 0, (0, 0, 0, 0), 0, 0, 0, 0)).fst (l.getD s4.toNat (0, 0, 0, 0, 0, 0, (0, 0, 0, 0), 0, 0, 0, 0)).snd.fst (l.getD s4.toNat (0, 0, 0, 0, 0, 0, (0, 0, 0, 0), 0, 0, 0, 0)).snd.snd.fst (l.getD s4.toNat (0, 0, 0, 0, 0, 0, (0, 0, 0, 0), 0, 0, 0, 0)).snd.snd.snd.fst (l.getD s4.toNat (0, 0, 0, 0, 0, 0, (0, 0, 0, 0), 0, 0, 0, 0)).snd.snd.snd.snd.fst (l.getD s4.toNat (0, 0, 0, 0, 0, 0, (0, 0, 0, 0), 0, 0, 0, 0)).snd.snd.snd.snd.snd.fst (l.getD s4.toNat (0, 0, 0, 0, 0, 0, (0, 0, 0, 0), 0, 0, 0, 0)).snd.snd.snd.snd.snd.snd.fst.fst (l.getD s4.toNat (0, 0, 0, 0, 0, 0, (0, 0, 0, 0), 0, 0, 0, 0)).snd.snd.snd.snd.snd.snd.fst.snd.fst (l.getD s4.toNat (0, 0, 0, 0, 0, 0, (0, 0, 0, 0), 0, 0, 0, 0)).snd.snd.snd.snd.snd.snd.fst.snd.snd.fst (l.getD s4.toNat (0, 0, 0, 0, 0, 0, (0, 0, 0, 0), 0, 0, 0, 0)).snd.snd.snd.snd.snd.snd.fst.snd.snd.snd (l.getD s4.toNat (0, 0, 0, 0, 0, 0, (0, 0, 0, 0), 0, 0, 0, 0)).snd.snd.snd.snd.snd.snd.snd.fst (l.getD s4.toNat (0, 0, 0, 0, 0, 0, (0, 0, 0, 0), 0, 0, 0, 0)).snd.snd.snd.snd.snd.snd.snd.snd.fst (l.getD s4.toNat (0, 0, 0, 0, 0, 0, (0, 0, 0, 0), 0, 0, 0, 0)).snd.snd.snd.snd.snd.snd.snd.snd.snd.fst (l.getD s4.toNat (0, 0, 0, 0, 0, 0, (0, 0, 0, 0), 0, 0, 0, 0)).snd.snd.snd.snd.snd.snd.snd.snd.snd.snd) != 0 then R ((AV.int IntKind.i64 s4).cons ((AV.int IntKind.i64 (blk (c33 (l.getD s4.toNat (0, 0, 0, 0, 0, 0, (0, 0, 0, 0), 0, 0, 0, 0)).fst (l.getD s4.toNat (0, 0, 0, 0, 0, 0, (0, 0, 0, 0), 0, 0, 0, 0)).snd.fst (l.getD s4.toNat (0, 0, 0, 0, 0, 0, (0, 0, 0, 0), 0, 0, 0, 0)).snd.snd.fst (l.getD s4.toNat (0, 0, 0, 0, 0, 0, (0, 0, 0, 0), 0, 0, 0, 0)).snd.snd.snd.fst (l.getD s4.toNat (0, 0, 0, 0, 0, 0, (0, 0, 0, 0), 0, 0, 0, 0)).snd.snd.snd.snd.fst (l.getD s4.toNat (0, 0, 0, 0, 0, 0, (0, 0, 0, 0), 0, 0, 0, 0)).snd.snd.snd.snd.snd.fst (l.getD s4.toNat (0, 0, 0, 0, 0, 0, (0, 0, 0, 0), 0, 0, 0, 0)).snd.snd.snd.snd.snd.snd.fst.fst (l.getD s4.toNat (0, 0, 0, 0, 0, 0, (0, 0, 0, 0), 0, 0, 0, 0)).snd.snd.snd.snd.snd.snd.fst.snd.fst (l.getD s4.toNat (0, 0, 0, 0, 0, 0, (0, 0, 0, 0), 0, 0, 0, 0)).snd.snd.snd.snd.snd.snd.fst.snd.snd.fst (l.getD s4.toNat (0, 0, 0, 0, 0, 0, (0, 0, 0, 0), 0, 0, 0, 0)).snd.snd.snd.snd.snd.snd.fst.snd.snd.snd (l.getD s4.toNat (0, 0, 0, 0, 0, 0, (0, 0, 0, 0), 0, 0, 0, 0)).snd.snd.snd.snd.snd.snd.snd.fst (l.getD s4.toNat (0, 0, 0, 0, 0, 0, (0, 0, 0, 0), 0, 0, 0, 0)).snd.snd.snd.snd.snd.snd.snd.snd.fst (l.getD s4.toNat (0, 0, 0, 0, 0, 0, (0, 0, 0, 0), 0, 0, 0, 0)).snd.snd.snd.snd.snd.snd.snd.snd.snd.fst (l.getD s4.toNat (0, 0, 0, 0, 0, 0, (0, 0, 0, 0), 0, 0, 0, 0)).snd.snd.snd.snd.snd.snd.snd.snd.snd.snd))).cons AV.nl)).tuple [] else bif s4 == 0 then bif !(l.getD s4.toNat (0, 0, 0, 0, 0, 0, (0, 0, 0, 0), 0, 0, 0, 0)).fst != 0 then bif !(l.getD s4.toNat (0, 0, 0, 0, 0, 0, (0, 0, 0, 0), 0, 0, 0, 0)).snd.fst != 3 then bif !decide ((l.getD s4.toNat (0, 0, 0, 0, 0, 0, (0, 0, 0, 0), 0, 0, 0, 0)).snd.snd.snd.snd.fst < 0) then bif !(l.getD s4.toNat (0, 0, 0, 0, 0, 0, (0, 0, 0, 0), 0, 0, 0, 0)).snd.snd.snd.fst != 0 then f23_j2 R l s4 J else f23_j4 R l s4 J else f23_j4 R l s4 J else f23_j4 R l s4 J else f23_j4 R l s4 J else bif !(l.getD s4.toNat (0, 0, 0, 0, 0, 0, (0, 0, 0, 0), 0, 0, 0, 0)).fst == 0 then 0 ≤ IntKind.i64.wrap (s4 - 1) ∧ IntKind.i64.wrap (s4 - 1) < (↑l.length : Int) ∧ bif decide ((l.getD s4.toNat (0, 0, 0, 0, 0, 0, (0, 0, 0, 0), 0, 0, 0, 0)).fst > IntKind.i64.wrap ((l.getD (IntKind.i64.wrap (s4 - 1)).toNat (0, 0, 0, 0, 0, 0, (0, 0, 0, 0), 0, 0, 0, 0)).fst + 1)) then R ((AV.int IntKind.i64 s4).cons ((AV.int IntKind.i64 12).cons AV.nl)).tuple [] else 0 ≤ s4 ∧ s4 < (↑l.length : Int) ∧ s4 ≤ 65536 ∧ 0 ≤ blk (parFrom l (IntKind.i64.wrap ((l.getD s4.toNat zBx).fst - 1)) s4.toNat) ∧ blk (parFrom l (IntKind.i64.wrap ((l.getD s4.toNat zBx).fst - 1)) s4.toNat) < (↑l.length : Int) ∧ bif !blk (fits4 (l.getD (blk (parFrom l (IntKind.i64.wrap ((l.getD s4.toNat zBx).fst - 1)) s4.toNat)).toNat (0, 0, 0, 0, 0, 0, (0, 0, 0, 0), 0, 0, 0, 0)).snd.fst (l.getD s4.toNat (0, 0, 0, 0, 0, 0, (0, 0, 0, 0), 0, 0, 0, 0)).snd.fst) then R ((AV.int IntKind.i64 s4).cons ((AV.int IntKind.i64 12).cons AV.nl)).tuple [] else f23_j3 R l s4 J else R ((AV.int IntKind.i64 s4).cons ((AV.int IntKind.i64 12).cons AV.nl)).tuple [] else R ((AV.int IntKind.i64 (-1)).cons ((AV.int IntKind.i64 0).cons AV.nl)).tuple []
theorem f23_eq1 (R : AV → List Ob → Prop) (l : List TB.den) (J : St → Prop) (s4 : Int) : codeA tab (eB1.cut f23_cuts) (subC [1, 1, 0, 1, 0, 0] (bodyOf Try.f23)) f23_live1 (f23_head1 l s4) (thenA (fun s => J (St.tidy f23_live1 s)) (f23_q1 R)) = f23_rhs1 R l J s4 := by kernel_rfl
theorem f23_rule1 (R : AV → List Ob → Prop) (l : List TB.den) (I : Nat → (Int) → Prop) (n : Nat) (s4 : Int) (h0 : I n s4) (h : ∀ n, ∀ (s4 : Int), I n s4 → f23_rhs1 R l (fun t => ∃ m, m < n ∧ ∃ (s4 : Int), t = f23_head1 l s4 ∧ I m s4) s4) : f23_loop1 R l s4 :=
  loop_intro (fun n t => ∃ (s4 : Int), t = f23_head1 l s4 ∧ I n s4) n ⟨s4, rfl, h0⟩ (fun n t ht => by obtain ⟨s4, rfl, hI⟩ := ht; exact Eq.mpr (f23_eq1 R l (fun t => ∃ m, m < n ∧ ∃ (s4 : Int), t = f23_head1 l s4 ∧ I m s4) s4) (h n s4 hI))
theorem f23_run (R : AV → List Ob → Prop) (l : List TB.den) : fnA tab (eB1.cut f23_cuts) Try.f23 (bodyOf Try.f23) [.list 35 TB l] R = (bif (↑l.length : Int) == 0 then R ((AV.int IntKind.i64 (-1)).cons ((AV.int IntKind.i64 15).cons AV.nl)).tuple [] else f23_loop1 R l 0) := by kernel_rfl
theorem ok23 : ConOk Try.prog (23, con23) := by
  intro args t h hp
  change con23 args = some t at h
  unfold con23 at h
  split at h
  · rename_i l
    change List TB.den at l
    cases h
    refine fn_ok (envB1.cut f23_cuts) tab_ok mixed Try.func23 (by kernel_rfl) (by kernel_rfl) ?_
    rw [f23_run]
    try dsimp only
    rw [blk_eq]
    refine cond_split (fun h0 => ?_) (fun h0 => ?_)
    · have e : chk6 l = (-1, 15) := by unfold chk6; rw [h0]; rfl
      rw [e]; exact ⟨rfl, rfl⟩
    have e0 : chk6 l = chkFrom l (l.length - 0) 0 := by unfold chk6; rw [h0]; rfl
    refine f23_rule1 _ l (fun n s => ∃ k : Nat, k ≤ l.length ∧ n = l.length - k ∧ s = k ∧ (∀ j, j < k → ck6 l j = 0) ∧ chk6 l = chkFrom l (l.length - k) k) l.length 0 ⟨0, Nat.zero_le _, rfl, rfl, fun j hj => absurd hj (Nat.not_lt_zero _), e0⟩ ?_
    rintro n s ⟨k, hk, rfl, rfl, hc, hck⟩
    unfold f23_rhs1
    refine dec_split (fun hlt => ?_) (fun hlt => ?_)
    rotate_left
    · have e : l.length - k = 0 := by omega
      rw [hck, e]
      exact ⟨rfl, rfl⟩
    have hlt' : k < l.length := by omega
    obtain ⟨s1, s2⟩ := chkFrom_step hlt' hck
    rw [Int.toNat_natCast, blk_eq, blk_eq, blk_eq]
    have hz : (0, 0, 0, 0, 0, 0, (0, 0, 0, 0), 0, 0, 0, 0) = zBx := rfl
    rw [hz]
    refine ⟨by omega, hlt, cond_split (fun h1 => ?_) (fun h1 => cond_split (fun h2 => ?_) (fun h2 => cond_split (fun h3 => ?_) (fun h3 => ?_)))⟩
    · have e : ck6 l k = 3 := by unfold ck6; rw [h1]; rfl
      rw [s1 (by rw [e]; decide), e]
      exact ⟨rfl, rfl⟩
    · have e : ck6 l k = c33b (l.getD k zBx) := by unfold ck6; rw [h1, cond_false, show (c33b (l.getD k zBx) != 0) = true from h2]; rfl
      have hne : ck6 l k ≠ 0 := by rw [e]; simpa using show (c33b (l.getD k zBx) != 0) = true from h2
      rw [s1 hne, e]
      exact ⟨rfl, rfl⟩
    · have hk0 : k = 0 := by simpa using h3
      have hw : IntKind.wrap .i64 ((k : Int) + 1) = ((k + 1 : Nat) : Int) := by rw [wrap_id _ (by omega)]; rfl
      rw [f23_jeq2, f23_jeq4, f23_jeq3, Int.toNat_natCast, hz]
      have e : ck6 l k = bif rootX (l.getD k zBx) then 12 else 0 := by unfold ck6; rw [h1, cond_false, show (c33b (l.getD k zBx) != 0) = false from h2, cond_false, h3]; rfl
      refine root_all6 (l.getD k zBx) (fun hr => ?_) (fun hr => ?_)
      · rw [hr] at e
        rw [s1 (by rw [e]; decide), e, hk0]
        exact ⟨rfl, rfl⟩
      · rw [hr] at e
        exact ⟨l.length - (k + 1), by omega, _, rfl, k + 1, by omega, rfl, hw, fun j hj => by
          rcases Nat.lt_or_ge j k with h | h
          · exact hc j h
          · rw [show j = k by omega]; exact e, s2 e⟩
    have hk0 : 0 < k := by
      have : k ≠ 0 := by simpa using h3
      omega
    have hk6 : k ≠ 65536 := fun e => by rw [e] at h1; cases h1
    have hkb : k < 65536 := by
      rcases Nat.lt_or_ge k 65536 with h | h
      · exact h
      · exact absurd rfl (ck6_zero (hc 65536 (by omega))).1
    have h2' : c33b (l.getD k zBx) = 0 := bne_zero h2
    have hw0 : IntKind.wrap .i64 ((k : Int) - 1) = ((k - 1 : Nat) : Int) := by rw [wrap_id _ (by omega)]; omega
    have hw : IntKind.wrap .i64 ((k : Int) + 1) = ((k + 1 : Nat) : Int) := by rw [wrap_id _ (by omega)]; rfl
    rw [hw0, Int.toNat_natCast, f23_jeq3, hw]
    have e : ck6 l k = bif nestX (l.getD k zBx).1 (l.getD (k - 1) zBx).1 then 12 else bif !fits4 (l.getD (parFrom l (IntKind.i64.wrap ((l.getD k zBx).1 - 1)) k).toNat zBx).2.1 (l.getD k zBx).2.1 then 12 else 0 := by
      unfold ck6
      rw [h1, cond_false, show (c33b (l.getD k zBx) != 0) = false from h2, cond_false, h3, cond_false]
    refine cond_split (fun g1 => ⟨by omega, by omega, dec_split (fun g2 => ?_) (fun g2 => ?_)⟩) (fun g1 => ?_)
    · have hn : nestX (l.getD k zBx).1 (l.getD (k - 1) zBx).1 = true := by unfold nestX; rw [g1]; exact decide_eq_true g2
      rw [hn, cond_true] at e
      rw [s1 (by rw [e]; decide), e]
      exact ⟨rfl, rfl⟩
    · have hn : nestX (l.getD k zBx).1 (l.getD (k - 1) zBx).1 = false := by unfold nestX; rw [g1]; exact decide_eq_false g2
      obtain ⟨p1, m, p2, p3, p4⟩ := par_pos hc hk0 hn h2'
      rw [hn, cond_false] at e
      rw [p1, p3] at e
      rw [p1, p3]
      refine ⟨by omega, hlt, by omega, by omega, by omega, ?_⟩
      rw [Int.toNat_natCast] at e ⊢
      refine cond_split (fun g3 => ?_) (fun g3 => ?_)
      · rw [show (!fits4 (l.getD m zBx).2.1 (l.getD k zBx).2.1) = true from g3] at e
        rw [s1 (by rw [e]; decide), e]
        exact ⟨rfl, rfl⟩
      · rw [show (!fits4 (l.getD m zBx).2.1 (l.getD k zBx).2.1) = false from g3] at e
        exact ⟨l.length - (k + 1), by omega, _, rfl, k + 1, by omega, rfl, rfl, fun j hj => by
          rcases Nat.lt_or_ge j k with h | h
          · exact hc j h
          · rw [show j = k by omega]; exact e, s2 e⟩
    · have hn : nestX (l.getD k zBx).1 (l.getD (k - 1) zBx).1 = true := by unfold nestX; rw [g1]; rfl
      rw [hn, cond_true] at e
      rw [s1 (by rw [e]; decide), e]
      exact ⟨rfl, rfl⟩
  · cases h
end
end Go.Proofs.Ytkpjcmiijlpcaaa.W
