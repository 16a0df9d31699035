/- The law StrutOne: its body's normal form, printed by a program of ours and checked by the kernel; it answers true. -/
import Derived.Test.YtpojdmikpodoaaaWb
namespace Go.Proofs.Ytpojdmikpodoaaa.W
open Go Go.Proofs Go.Proofs.Ytpojdmikpodoaaa.Aw
theorem f7_run (R : AV → List Ob → Prop) (a b : Int) : fnA tab (envOf cons4) Try.f7 (bodyOf Try.f7) [.int .i64 a, .int .i64 b] R = ([a, b].length ≤ 9223372036854775807 ∧
  bif !small [a, b] then R (AV.bool true) []
  else
    bif decide (a ≥ 0) then
      bif decide (b ≥ 0) then
        [a].length ≤ 9223372036854775807 ∧
          bif IntKind.i64.wrap (most [a] + least [a]) == a then
            bif IntKind.i64.wrap (max (most [a]) b + min (least [a]) b) == if b > a then b else a then
              [b].length ≤ 9223372036854775807 ∧
                [b, a].length ≤ 9223372036854775807 ∧
                  bif
                      max (most [a]) (most [b]) == most [b, a] &&
                        (min (least [a]) (least [b]) == least [b, a] && true) then
                    0 ≤ 9223372036854775807 ∧ R (AV.bool true) []
                  else R (AV.bool false) []
            else R (AV.bool false) []
          else R (AV.bool false) []
      else
        bif decide (a ≤ 0) then
          bif decide (b ≤ 0) then
            [a].length ≤ 9223372036854775807 ∧
              bif IntKind.i64.wrap (most [a] + least [a]) == a then
                bif IntKind.i64.wrap (max (most [a]) b + min (least [a]) b) == if b < a then b else a then
                  [b].length ≤ 9223372036854775807 ∧
                    [b, a].length ≤ 9223372036854775807 ∧
                      bif
                          max (most [a]) (most [b]) == most [b, a] &&
                            (min (least [a]) (least [b]) == least [b, a] && true) then
                        0 ≤ 9223372036854775807 ∧ R (AV.bool true) []
                      else R (AV.bool false) []
                else R (AV.bool false) []
              else R (AV.bool false) []
          else
            [a].length ≤ 9223372036854775807 ∧
              bif IntKind.i64.wrap (most [a] + least [a]) == a then
                bif IntKind.i64.wrap (max (most [a]) b + min (least [a]) b) == IntKind.i64.wrap (a + b) then
                  [b].length ≤ 9223372036854775807 ∧
                    [b, a].length ≤ 9223372036854775807 ∧
                      bif
                          max (most [a]) (most [b]) == most [b, a] &&
                            (min (least [a]) (least [b]) == least [b, a] && true) then
                        0 ≤ 9223372036854775807 ∧ R (AV.bool true) []
                      else R (AV.bool false) []
                else R (AV.bool false) []
              else R (AV.bool false) []
        else
          [a].length ≤ 9223372036854775807 ∧
            bif IntKind.i64.wrap (most [a] + least [a]) == a then
              bif IntKind.i64.wrap (max (most [a]) b + min (least [a]) b) == IntKind.i64.wrap (a + b) then
                [b].length ≤ 9223372036854775807 ∧
                  [b, a].length ≤ 9223372036854775807 ∧
                    bif
                        max (most [a]) (most [b]) == most [b, a] &&
                          (min (least [a]) (least [b]) == least [b, a] && true) then
                      0 ≤ 9223372036854775807 ∧ R (AV.bool true) []
                    else R (AV.bool false) []
              else R (AV.bool false) []
            else R (AV.bool false) []
    else
      bif decide (a ≤ 0) then
        bif decide (b ≤ 0) then
          [a].length ≤ 9223372036854775807 ∧
            bif IntKind.i64.wrap (most [a] + least [a]) == a then
              bif IntKind.i64.wrap (max (most [a]) b + min (least [a]) b) == if b < a then b else a then
                [b].length ≤ 9223372036854775807 ∧
                  [b, a].length ≤ 9223372036854775807 ∧
                    bif
                        max (most [a]) (most [b]) == most [b, a] &&
                          (min (least [a]) (least [b]) == least [b, a] && true) then
                      0 ≤ 9223372036854775807 ∧ R (AV.bool true) []
                    else R (AV.bool false) []
              else R (AV.bool false) []
            else R (AV.bool false) []
        else
          [a].length ≤ 9223372036854775807 ∧
            bif IntKind.i64.wrap (most [a] + least [a]) == a then
              bif IntKind.i64.wrap (max (most [a]) b + min (least [a]) b) == IntKind.i64.wrap (a + b) then
                [b].length ≤ 9223372036854775807 ∧
                  [b, a].length ≤ 9223372036854775807 ∧
                    bif
                        max (most [a]) (most [b]) == most [b, a] &&
                          (min (least [a]) (least [b]) == least [b, a] && true) then
                      0 ≤ 9223372036854775807 ∧ R (AV.bool true) []
                    else R (AV.bool false) []
              else R (AV.bool false) []
            else R (AV.bool false) []
      else
        [a].length ≤ 9223372036854775807 ∧
          bif IntKind.i64.wrap (most [a] + least [a]) == a then
            bif IntKind.i64.wrap (max (most [a]) b + min (least [a]) b) == IntKind.i64.wrap (a + b) then
              [b].length ≤ 9223372036854775807 ∧
                [b, a].length ≤ 9223372036854775807 ∧
                  bif
                      max (most [a]) (most [b]) == most [b, a] &&
                        (min (least [a]) (least [b]) == least [b, a] && true) then
                    0 ≤ 9223372036854775807 ∧ R (AV.bool true) []
                  else R (AV.bool false) []
            else R (AV.bool false) []
          else R (AV.bool false) []) := by kernel_rfl
theorem cond_of {c : Bool} {X Y : Prop} (h : c = true) (hx : X) : bif c then X else Y := by rw [h]; exact hx
theorem most_one (a : Int) : most [a] = max 0 a := rfl
theorem most_two (a b : Int) : most [a, b] = max (max 0 a) b := rfl
theorem least_one (a : Int) : least [a] = min 0 a := rfl
theorem least_two (a b : Int) : least [a, b] = min (min 0 a) b := rfl
theorem small_two (a b : Int) (h : small [a, b] = true) : (-1152921504606846976 ≤ a ∧ a ≤ 1152921504606846976) ∧ (-1152921504606846976 ≤ b ∧ b ≤ 1152921504606846976) := by
  simp [small] at h
  omega
theorem wrap_id (x : Int) (h : -9223372036854775808 ≤ x ∧ x ≤ 9223372036854775807) : IntKind.wrap .i64 x = x := by
  simp [IntKind.wrap, IntKind.signed, IntKind.bits]
  omega
theorem law7' (a b : Int) : ACalls Try.prog 7 [.int .i64 a, .int .i64 b] (.bool true) [] := by
  refine fn_ok env4_ok tab_ok mixed Try.func7 (by kernel_rfl) (by kernel_rfl) ?_
  rw [f7_run]
  refine ⟨by simp, ?_⟩
  cases hs : small [a, b] with
  | false => exact ⟨rfl, rfl⟩
  | true =>
    obtain ⟨ha, hb⟩ := small_two a b hs
    simp only [most_one, most_two, least_one, least_two, Bool.not_true, cond_false]
    rw [wrap_id (max 0 a + min 0 a) (by omega), wrap_id (max (max 0 a) b + min (min 0 a) b) (by omega), wrap_id (a + b) (by omega)]
    have e1 : (max 0 a + min 0 a == a) = true := by simp; omega
    have e2 : (max (max 0 a) (max 0 b) == max (max 0 b) a && (min (min 0 a) (min 0 b) == min (min 0 b) a && true)) = true := by simp; omega
    rw [e1, e2]
    simp only [cond_true]
    by_cases h1 : a ≥ 0 <;> by_cases h2 : b ≥ 0 <;> by_cases h3 : a ≤ 0 <;> by_cases h4 : b ≤ 0 <;> simp only [h1, h2, h3, h4, decide_true, decide_false, cond_true, cond_false]
    all_goals
      first
        | (exfalso; omega)
        | (refine ⟨by simp, cond_of ?_ ⟨by simp, by simp, by omega, by simp⟩⟩
           simp only [beq_iff_eq]
           first
             | omega
             | (split <;> omega))
theorem law7 (x : ArgsDen [(false, .int .i64), (false, .int .i64)]) (_ : OkArgs [(false, .int .i64), (false, .int .i64)] x) : ACalls Try.prog 7 (argsA [(false, .int .i64), (false, .int .i64)] x) (.bool true) [] := law7' x.1 x.2.1
end Go.Proofs.Ytpojdmikpodoaaa.W
