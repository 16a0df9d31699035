/- The law ScriptLong. -/
import Derived.Test.YtkpjcmiijlpcaaaWa
import Derived.Test.YtkpjcmiijlpcaaaEa
import Derived.Test.YtkpjcmiijlpcaaaAwZ
import Derived.KernelRfl
set_option linter.unusedVariables false
set_option linter.unusedSimpArgs false
namespace Go.Proofs.Ytkpjcmiijlpcaaa.W
open Go Go.Proofs Go.Proofs.Ytkpjcmiijlpcaaa.Aw
def consL0 : Cons := (8, con8) :: consS2
def twosL0 : Cons2 := twosS2
def pansL0 : Cons3 := pansS2
def itersL0 : Cons4 := itersS2
abbrev eL0 : Env := envOf4 consL0 twosL0 pansL0 itersL0
theorem allconsL0 : ∀ c ∈ consL0, ConOk Try.prog c := all_cons ok8 allconsS2
theorem alltwosL0 : ∀ c ∈ twosL0, ConOk2 Try.prog c := alltwosS2
theorem allpansL0 : ∀ c ∈ pansL0, ConOk3 Try.prog c := allpansS2
theorem allitersL0 : ∀ c ∈ itersL0, ConOk4 Try.prog c := allitersS2
theorem envL0 : EnvOk Try.prog eL0 := envOf4_ok _ _ _ _ allconsL0 alltwosL0 allpansL0 allitersL0
def con7 : List AV → Option Tells
  | [] => some ⟨[], AV.bool true, []⟩
  | _ => none
theorem f7_run (R : AV → List Ob → Prop)  : fnA tab eL0 Try.f7 (bodyOf Try.f7) [] R = (Nat.le 0 9223372036854775807 ∧ Nat.le 1 65536 ∧ R (AV.bool true) []) := by kernel_rfl
theorem ok7 : ConOk Try.prog (7, con7) := by
  intro args t h hp
  simp only [con7] at h
  split at h
  · cases h
    refine fn_ok envL0 tab_ok mixed Try.func7 (by kernel_rfl) (by kernel_rfl) ?_
    rw [f7_run]
    exact ⟨Nat.le_of_ble_eq_true rfl, ⟨Nat.le_of_ble_eq_true rfl, ⟨rfl, rfl⟩⟩⟩
  · cases h
def consL1 : Cons := (7, con7) :: consL0
def twosL1 : Cons2 := twosL0
def pansL1 : Cons3 := pansL0
def itersL1 : Cons4 := itersL0
abbrev eL1 : Env := envOf4 consL1 twosL1 pansL1 itersL1
theorem allconsL1 : ∀ c ∈ consL1, ConOk Try.prog c := all_cons ok7 allconsL0
theorem alltwosL1 : ∀ c ∈ twosL1, ConOk2 Try.prog c := alltwosL0
theorem allpansL1 : ∀ c ∈ pansL1, ConOk3 Try.prog c := allpansL0
theorem allitersL1 : ∀ c ∈ itersL1, ConOk4 Try.prog c := allitersL0
theorem envL1 : EnvOk Try.prog eL1 := envOf4_ok _ _ _ _ allconsL1 alltwosL1 allpansL1 allitersL1
abbrev eL1h3 : Env := eL1.hint [] [12]
theorem envL1h3 : EnvOk Try.prog eL1h3 := envL1.hint _ _
theorem f3_run (R : AV → List Ob → Prop) (a b : Int) : fnA tab eL1h3 Try.f3 (bodyOf Try.f3) [.int .u8 a, .int .u8 b] R = ((0 : Int) ≤ 917504 ∧ (917504 : Int) = 917504 ∧ (7340032 : Int) ≤ 140737488355328 ∧ (rept 917504 (0 : Int)).length ≤ 9223372036854775807 ∧ bif !errD (rept 917504 (0 : Int)) != 0 then bif (↑(datD (rept 917504 (0 : Int))).length : Int) != 65536 then R (AV.bool false) [] else (3 : Int) ≠ 0 ∧ ((rept 917504 (0 : Int)).length + (IntKind.i64.wrap (14 * IntKind.i64.wrap (1 + (IntKind.i64.wrap a).tmod 3))).toNat) * 8 ≤ 140737488355328 ∧ 0 < (rept 917504 (0 : Int)).length ∧ 0 < IntKind.i64.wrap (14 * IntKind.i64.wrap (1 + (IntKind.i64.wrap a).tmod 3)) ∧ (rept 917504 (0 : Int) ++ List.replicate (IntKind.i64.wrap (14 * IntKind.i64.wrap (1 + (IntKind.i64.wrap a).tmod 3))).toNat 0).length ≤ 9223372036854775807 ∧ (13 : Int) ≠ 0 ∧ ((rept 917504 (0 : Int)).length + (IntKind.i64.wrap (1 + (IntKind.i64.wrap b).tmod 13)).toNat) * 8 ≤ 140737488355328 ∧ 0 < (rept 917504 (0 : Int)).length ∧ 0 < IntKind.i64.wrap (1 + (IntKind.i64.wrap b).tmod 13) ∧ (rept 917504 (0 : Int) ++ List.replicate (IntKind.i64.wrap (1 + (IntKind.i64.wrap b).tmod 13)).toNat 0).length ≤ 9223372036854775807 ∧ bif errD (rept 917504 (0 : Int) ++ List.replicate (IntKind.i64.wrap (14 * IntKind.i64.wrap (1 + (IntKind.i64.wrap a).tmod 3))).toNat 0) == 3 then R (AV.bool (errD (rept 917504 (0 : Int) ++ List.replicate (IntKind.i64.wrap (1 + (IntKind.i64.wrap b).tmod 13)).toNat 0) == 2)) [] else R (AV.bool false) [] else R (AV.bool false) []) := by kernel_rfl
theorem err_len (xs : List Int) : errD xs = if xs.length % 14 ≠ 0 then 2 else if xs.length / 14 > 65536 then 3 else 0 := rfl
theorem dat_len (xs : List Int) (h : xs.length = 917504) : (datD xs).length = 65536 := by
  unfold datD decB
  rw [h, if_neg (by decide)]
  simp
theorem lawSL' (a b : Int) (ha : 0 ≤ a ∧ a ≤ 255) (hb : 0 ≤ b ∧ b ≤ 255) : ACalls Try.prog 3 [.int .u8 a, .int .u8 b] (.bool true) [] := by
  refine fn_ok envL1h3 tab_ok mixed Try.func3 (by kernel_rfl) (by kernel_rfl) ?_
  rw [f3_run]
  obtain ⟨n, hn⟩ : ∃ n, n = rept 917504 (0 : Int) := ⟨_, rfl⟩
  have hl : n.length = 917504 := by rw [hn, rept_eq, List.length_replicate]
  have hd := dat_len n hl
  have he : errD n = 0 := by rw [err_len, hl]; rfl
  rw [← hn, he, hd, hl]
  obtain ⟨m, hm⟩ : ∃ m, m = (IntKind.i64.wrap a).tmod 3 := ⟨_, rfl⟩
  have hm0 : 0 ≤ m ∧ m < 3 := by rw [hm, wrap_id a (by omega), Int.tmod_eq_emod_of_nonneg ha.1]; omega
  obtain ⟨k, hk⟩ : ∃ k, k = (IntKind.i64.wrap b).tmod 13 := ⟨_, rfl⟩
  have hk0 : 0 ≤ k ∧ k < 13 := by rw [hk, wrap_id b (by omega), Int.tmod_eq_emod_of_nonneg hb.1]; omega
  rw [← hm, ← hk, wrap_id (1 + m) (by omega), wrap_id (14 * (1 + m)) (by omega), wrap_id (1 + k) (by omega)]
  have e1 : errD (n ++ List.replicate (14 * (1 + m)).toNat (0 : Int)) = 3 := by
    rw [err_len, List.length_append, List.length_replicate, hl, if_neg (by omega), if_pos (by omega)]
  have e2 : errD (n ++ List.replicate (1 + k).toNat (0 : Int)) = 2 := by
    rw [err_len, List.length_append, List.length_replicate, hl, if_pos (by omega)]
  rw [e1, e2]
  simp only [List.length_append, List.length_replicate, hl]
  exact ⟨by omega, trivial, by omega, by omega, by omega, by omega, by omega, by omega, by omega, by omega, by omega, by omega, by omega, by omega, rfl, trivial⟩
theorem u8_of {x : Int} (h : OkD (.int .u8) x) : 0 ≤ x ∧ x ≤ 255 := by
  have h : (Lit.int .u8 x).wf = true := h
  simp [Lit.wf, IntKind.min, IntKind.max, IntKind.signed, IntKind.bits] at h
  omega
theorem law3 (x : ArgsDen [(false, .int .u8), (false, .int .u8)]) (h : OkArgs [(false, .int .u8), (false, .int .u8)] x) : ACalls Try.prog 3 (argsA [(false, .int .u8), (false, .int .u8)] x) (.bool true) [] :=
  lawSL' x.1 x.2.1 (u8_of h.1) (u8_of h.2.1)

end Go.Proofs.Ytkpjcmiijlpcaaa.W
