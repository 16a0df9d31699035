/- StrutRaw: of any strut the law answers true: With is Join with the margin's, its sum and whether it is right are told. No condition. -/
import Derived.Test.YtpojdmikpodoaaaPStrutRawx1
import Derived.Test.YtpojdmikpodoaaaAid
namespace Go.Proofs.Ytpojdmikpodoaaa.Pure
open Go.RowKit Go.Proofs.Ytpojdmikpodoaaa.PStrutRaw Go.Proofs.YtpojdmikpodoaaaW.PrintWords Go.Proofs.YtpojdmikpodoaaaW.PrintLast Go.Proofs.YtpojdmikpodoaaaW.PrintMore Go.Proofs.Ytpojdmikpodoaaa.Aid

theorem small_some (l : List Int) (hn : l.length ≤ 9223372036854775807) (d : Nat) : ∀ (k i : Nat), i + d = l.length → d < k → ∃ b, runaroundref02_Small.l0 k l (i : Int) = some b := by
  induction d with
  | zero =>
    intro k i hi hk
    obtain ⟨k, rfl⟩ : ∃ m, k = m + 1 := ⟨k - 1, by omega⟩
    simp only [runaroundref02_Small.l0]
    rw [if_neg (by omega)]
    exact ⟨_, rfl⟩
  | succ d ih =>
    intro k i hi hk
    obtain ⟨k, rfl⟩ : ∃ m, k = m + 1 := ⟨k - 1, by omega⟩
    obtain ⟨b, hb⟩ := ih k (i + 1) (by omega) (by omega)
    simp only [runaroundref02_Small.l0]
    rw [if_pos (by omega), if_pos (by omega), wrap_up (by omega) (by omega : (i : Int) < l.length) hn, show ((i : Int) + 1) = ((i + 1 : Nat) : Int) by omega, hb]
    split
    · exact ⟨_, rfl⟩
    · split <;> exact ⟨_, rfl⟩
theorem speaks_four : runaroundlaw03_speaks.f 4 = some true := by decide +kernel
theorem speaks_tells (k : Nat) (hk : 4 ≤ k) : runaroundlaw03_speaks.f k = some true := at_rounds runaroundlaw03_speaks.mono hk speaks_four
theorem raw_true (x y z : Int) (k : Nat) (hk : 4 ≤ k) : runaroundlaw03_StrutRaw.j0 (k + 1) x y z true = some true := by
  simp only [runaroundlaw03_StrutRaw.j0, if_true]
  rw [speaks_tells k hk]
  rfl
theorem raw_false (x y z : Int) (k : Nat) : runaroundlaw03_StrutRaw.j0 (k + 1) x y z false = some true := by
  simp only [runaroundlaw03_StrutRaw.j0, strut_Strut_With.f, strut_Strut_Join.f, strut_Strut_Sum.f, strut_Strut_Right.f]
  rw [if_neg (by simp)]
  simp only [Option.bind_some, if_true]
  by_cases hy : y ≤ 0
  · rw [if_pos hy]
    simp only [Option.bind_some]
    by_cases hx : x ≥ 0 <;> simp [hx, hy]
  · rw [if_neg hy]
    simp only [Option.bind_some]
    by_cases hx : x ≥ 0 <;> simp [hx, hy]
theorem StrutRaw : runaroundlaw03_StrutRaw.Pure := by
  intro x y z _ _ _
  refine ⟨9, ?_⟩
  unfold runaroundlaw03_StrutRaw.f
  rw [speaks_tells _ (by omega)]
  simp only [Option.bind_some, if_true]
  obtain ⟨b, hb⟩ := small_some [x, y, z] (by simp) 3 9 0 (by simp) (by omega)
  have hb' : runaroundref02_Small.f 9 [x, y, z] = some b := hb
  rw [hb']
  simp only [Option.bind_some]
  cases b with
  | true => exact raw_false x y z 8
  | false => exact raw_true x y z 8 (by omega)

end Go.Proofs.Ytpojdmikpodoaaa.Pure
