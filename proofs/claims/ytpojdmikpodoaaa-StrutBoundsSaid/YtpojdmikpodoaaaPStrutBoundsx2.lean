-- PRINTED BY print.sh 35421559b90ae4d0a3588c463048766b98c2df88dd9212a6774a882060cdf62d: not written by this session
import Derived.Test.YtpojdmikpodoaaaPStrutBoundsx0
import Derived.Test.YtpojdmikpodoaaaPStrutBoundsx1
namespace Go.Proofs.Ytpojdmikpodoaaa.PStrutBounds
open Go.RowKit Go.Proofs.YtpojdmikpodoaaaW.PrintWords Go.Proofs.YtpojdmikpodoaaaW.PrintLast Go.Proofs.YtpojdmikpodoaaaW.PrintMore
attribute [local go_sem] max2_int min2_int max_two min_two max_three min_three max_four min_four   -- for this text's walks alone
set_option linter.unusedVariables false
set_option linter.unusedSimpArgs false

/-! ### runaroundlaw03_StrutBounds: function 6 -/
mutual
def runaroundlaw03_StrutBounds.j0 : Nat → List Int → Bool → Option (Bool)
  | 0, _, _ => none
  | k + 1, x0, x22 => if x22 = true then ((runaroundlaw03_speaks.f k).bind fun t131 => (some t131)) else ((strut_Of.f k x0).bind fun bt132 => ((strut_Strut_Sum.f bt132.1 bt132.2).bind fun t134 => (runaroundlaw03_StrutBounds.l0 k x0 t134 0 0 x0 (x0.length : Int) 0)))
def runaroundlaw03_StrutBounds.l0 : Nat → List Int → Int → Int → Int → List Int → Int → Int → Option (Bool)
  | 0, _, _, _, _, _, _, _ => none
  | k + 1, x0, x3, x4, x5, x27, x28, x29 => if x29 < x28 then (if 0 ≤ x29 then (if x29 < (x27.length : Int) then (runaroundlaw03_StrutBounds.l0 k x0 x3 (mx x4 (rd x27 x29)) (mn x5 (rd x27 x29)) x27 x28 (wrap64 (x29 + 1))) else (none)) else (none)) else (if x3 > x4 then (runaroundlaw03_StrutBounds.j2 k x0 x3 x4 x5 true) else (runaroundlaw03_StrutBounds.j2 k x0 x3 x4 x5 (decide (x3 < x5))))
def runaroundlaw03_StrutBounds.j2 : Nat → List Int → Int → Int → Int → Bool → Option (Bool)
  | 0, _, _, _, _, _ => none
  | k + 1, x0, x3, x4, x5, x47 => if x47 = true then (some false) else (if x5 = 0 then (if x3 = x4 then (if x4 = 0 then (runaroundlaw03_StrutBounds.j3 k x0 x3 (x3 != x5)) else (runaroundlaw03_StrutBounds.j3 k x0 x3 false)) else (runaroundlaw03_StrutBounds.j3 k x0 x3 true)) else (if x4 = 0 then (runaroundlaw03_StrutBounds.j3 k x0 x3 (x3 != x5)) else (runaroundlaw03_StrutBounds.j3 k x0 x3 false)))
def runaroundlaw03_StrutBounds.j3 : Nat → List Int → Int → Bool → Option (Bool)
  | 0, _, _, _ => none
  | k + 1, x0, x3, x63 => if x63 = true then (some false) else (runaroundlaw03_StrutBounds.l1 k x3 ([] : List Int) x0 (x0.length : Int) 0)
def runaroundlaw03_StrutBounds.l1 : Nat → Int → List Int → List Int → Int → Int → Option (Bool)
  | 0, _, _, _, _, _ => none
  | k + 1, x3, x8, x64, x65, x66 => if x66 < x65 then (if 0 ≤ x66 then (if x66 < (x64.length : Int) then (if x8.length < 17592186044416 then (runaroundlaw03_StrutBounds.l1 k x3 (x8 ++ [wrap64 (-(rd x64 x66))]) x64 x65 (wrap64 (x66 + 1))) else (none)) else (none)) else (none)) else ((strut_Of.f k x8).bind fun bt140 => ((strut_Strut_Sum.f bt140.1 bt140.2).bind fun t142 => (some (t142 == (wrap64 (-x3))))))
end
def runaroundlaw03_StrutBounds.f (k : Nat) (l0 : List Int) : Option (Bool) := (runaroundlaw03_speaks.f k).bind fun t129 => (if t129 = true then (if (l0.length : Int) > 60 then (runaroundlaw03_StrutBounds.j0 k l0 true) else ((runaroundref02_Small.f k l0).bind fun t130 => (runaroundlaw03_StrutBounds.j0 k l0 (!t130)))) else (runaroundlaw03_StrutBounds.j0 k l0 true))
theorem runaroundlaw03_StrutBounds.mono_l : ∀ k, (∀ y0 y1, LeO (runaroundlaw03_StrutBounds.j0 k y0 y1) (runaroundlaw03_StrutBounds.j0 (k + 1) y0 y1)) ∧ (∀ y0 y1 y2 y3 y4 y5 y6, LeO (runaroundlaw03_StrutBounds.l0 k y0 y1 y2 y3 y4 y5 y6) (runaroundlaw03_StrutBounds.l0 (k + 1) y0 y1 y2 y3 y4 y5 y6)) ∧ (∀ y0 y1 y2 y3 y4, LeO (runaroundlaw03_StrutBounds.j2 k y0 y1 y2 y3 y4) (runaroundlaw03_StrutBounds.j2 (k + 1) y0 y1 y2 y3 y4)) ∧ (∀ y0 y1 y2, LeO (runaroundlaw03_StrutBounds.j3 k y0 y1 y2) (runaroundlaw03_StrutBounds.j3 (k + 1) y0 y1 y2)) ∧ (∀ y0 y1 y2 y3 y4, LeO (runaroundlaw03_StrutBounds.l1 k y0 y1 y2 y3 y4) (runaroundlaw03_StrutBounds.l1 (k + 1) y0 y1 y2 y3 y4))
  | 0 => ⟨fun _ _ r h => by simp [runaroundlaw03_StrutBounds.j0] at h, fun _ _ _ _ _ _ _ r h => by simp [runaroundlaw03_StrutBounds.l0] at h, fun _ _ _ _ _ r h => by simp [runaroundlaw03_StrutBounds.j2] at h, fun _ _ _ r h => by simp [runaroundlaw03_StrutBounds.j3] at h, fun _ _ _ _ _ r h => by simp [runaroundlaw03_StrutBounds.l1] at h⟩
  | k + 1 => by
    obtain ⟨ih0, ih1, ih2, ih3, ih4⟩ := runaroundlaw03_StrutBounds.mono_l k
    refine ⟨?_, ?_, ?_, ?_, ?_⟩
    · intro y0 y1
      unfold runaroundlaw03_StrutBounds.j0
      repeat' first
      | (with_reducible exact ih0 _ _)
      | (with_reducible exact ih1 _ _ _ _ _ _ _)
      | (with_reducible exact ih2 _ _ _ _ _)
      | (with_reducible exact ih3 _ _ _)
      | (with_reducible exact ih4 _ _ _ _ _)
      | (with_reducible exact runaroundlaw03_speaks.mono _)
      | (with_reducible exact runaroundref02_Small.mono _ _)
      | (with_reducible exact strut_Of.mono _ _)
      | (with_reducible exact LeO.refl _)
      | (with_reducible exact LeO.none _)
      | (with_reducible refine LeO.ite ?_ ?_)
      | (with_reducible refine LeO.bind ?_ (fun _ => ?_))
      | exact ih0 _ _
      | exact ih1 _ _ _ _ _ _ _
      | exact ih2 _ _ _ _ _
      | exact ih3 _ _ _
      | exact ih4 _ _ _ _ _
      | exact runaroundlaw03_speaks.mono _
      | exact runaroundref02_Small.mono _ _
      | exact strut_Of.mono _ _
      | exact LeO.none _
      | refine LeO.ite ?_ ?_
      | refine LeO.bind ?_ (fun _ => ?_)
    · intro y0 y1 y2 y3 y4 y5 y6
      unfold runaroundlaw03_StrutBounds.l0
      repeat' first
      | (with_reducible exact ih0 _ _)
      | (with_reducible exact ih1 _ _ _ _ _ _ _)
      | (with_reducible exact ih2 _ _ _ _ _)
      | (with_reducible exact ih3 _ _ _)
      | (with_reducible exact ih4 _ _ _ _ _)
      | (with_reducible exact runaroundlaw03_speaks.mono _)
      | (with_reducible exact runaroundref02_Small.mono _ _)
      | (with_reducible exact strut_Of.mono _ _)
      | (with_reducible exact LeO.refl _)
      | (with_reducible exact LeO.none _)
      | (with_reducible refine LeO.ite ?_ ?_)
      | (with_reducible refine LeO.bind ?_ (fun _ => ?_))
      | exact ih0 _ _
      | exact ih1 _ _ _ _ _ _ _
      | exact ih2 _ _ _ _ _
      | exact ih3 _ _ _
      | exact ih4 _ _ _ _ _
      | exact runaroundlaw03_speaks.mono _
      | exact runaroundref02_Small.mono _ _
      | exact strut_Of.mono _ _
      | exact LeO.none _
      | refine LeO.ite ?_ ?_
      | refine LeO.bind ?_ (fun _ => ?_)
    · intro y0 y1 y2 y3 y4
      unfold runaroundlaw03_StrutBounds.j2
      repeat' first
      | (with_reducible exact ih0 _ _)
      | (with_reducible exact ih1 _ _ _ _ _ _ _)
      | (with_reducible exact ih2 _ _ _ _ _)
      | (with_reducible exact ih3 _ _ _)
      | (with_reducible exact ih4 _ _ _ _ _)
      | (with_reducible exact runaroundlaw03_speaks.mono _)
      | (with_reducible exact runaroundref02_Small.mono _ _)
      | (with_reducible exact strut_Of.mono _ _)
      | (with_reducible exact LeO.refl _)
      | (with_reducible exact LeO.none _)
      | (with_reducible refine LeO.ite ?_ ?_)
      | (with_reducible refine LeO.bind ?_ (fun _ => ?_))
      | exact ih0 _ _
      | exact ih1 _ _ _ _ _ _ _
      | exact ih2 _ _ _ _ _
      | exact ih3 _ _ _
      | exact ih4 _ _ _ _ _
      | exact runaroundlaw03_speaks.mono _
      | exact runaroundref02_Small.mono _ _
      | exact strut_Of.mono _ _
      | exact LeO.none _
      | refine LeO.ite ?_ ?_
      | refine LeO.bind ?_ (fun _ => ?_)
    · intro y0 y1 y2
      unfold runaroundlaw03_StrutBounds.j3
      repeat' first
      | (with_reducible exact ih0 _ _)
      | (with_reducible exact ih1 _ _ _ _ _ _ _)
      | (with_reducible exact ih2 _ _ _ _ _)
      | (with_reducible exact ih3 _ _ _)
      | (with_reducible exact ih4 _ _ _ _ _)
      | (with_reducible exact runaroundlaw03_speaks.mono _)
      | (with_reducible exact runaroundref02_Small.mono _ _)
      | (with_reducible exact strut_Of.mono _ _)
      | (with_reducible exact LeO.refl _)
      | (with_reducible exact LeO.none _)
      | (with_reducible refine LeO.ite ?_ ?_)
      | (with_reducible refine LeO.bind ?_ (fun _ => ?_))
      | exact ih0 _ _
      | exact ih1 _ _ _ _ _ _ _
      | exact ih2 _ _ _ _ _
      | exact ih3 _ _ _
      | exact ih4 _ _ _ _ _
      | exact runaroundlaw03_speaks.mono _
      | exact runaroundref02_Small.mono _ _
      | exact strut_Of.mono _ _
      | exact LeO.none _
      | refine LeO.ite ?_ ?_
      | refine LeO.bind ?_ (fun _ => ?_)
    · intro y0 y1 y2 y3 y4
      unfold runaroundlaw03_StrutBounds.l1
      repeat' first
      | (with_reducible exact ih0 _ _)
      | (with_reducible exact ih1 _ _ _ _ _ _ _)
      | (with_reducible exact ih2 _ _ _ _ _)
      | (with_reducible exact ih3 _ _ _)
      | (with_reducible exact ih4 _ _ _ _ _)
      | (with_reducible exact runaroundlaw03_speaks.mono _)
      | (with_reducible exact runaroundref02_Small.mono _ _)
      | (with_reducible exact strut_Of.mono _ _)
      | (with_reducible exact LeO.refl _)
      | (with_reducible exact LeO.none _)
      | (with_reducible refine LeO.ite ?_ ?_)
      | (with_reducible refine LeO.bind ?_ (fun _ => ?_))
      | exact ih0 _ _
      | exact ih1 _ _ _ _ _ _ _
      | exact ih2 _ _ _ _ _
      | exact ih3 _ _ _
      | exact ih4 _ _ _ _ _
      | exact runaroundlaw03_speaks.mono _
      | exact runaroundref02_Small.mono _ _
      | exact strut_Of.mono _ _
      | exact LeO.none _
      | refine LeO.ite ?_ ?_
      | refine LeO.bind ?_ (fun _ => ?_)
theorem runaroundlaw03_StrutBounds.mono : ∀ a0 k, LeO (runaroundlaw03_StrutBounds.f k a0) (runaroundlaw03_StrutBounds.f (k + 1) a0) := by
  intro a0 k
  obtain ⟨ih0, ih1, ih2, ih3, ih4⟩ := runaroundlaw03_StrutBounds.mono_l k
  unfold runaroundlaw03_StrutBounds.f
  repeat' first
      | (with_reducible exact ih0 _ _)
      | (with_reducible exact ih1 _ _ _ _ _ _ _)
      | (with_reducible exact ih2 _ _ _ _ _)
      | (with_reducible exact ih3 _ _ _)
      | (with_reducible exact ih4 _ _ _ _ _)
      | (with_reducible exact runaroundlaw03_speaks.mono _)
      | (with_reducible exact runaroundref02_Small.mono _ _)
      | (with_reducible exact strut_Of.mono _ _)
      | (with_reducible exact LeO.refl _)
      | (with_reducible exact LeO.none _)
      | (with_reducible refine LeO.ite ?_ ?_)
      | (with_reducible refine LeO.bind ?_ (fun _ => ?_))
      | exact ih0 _ _
      | exact ih1 _ _ _ _ _ _ _
      | exact ih2 _ _ _ _ _
      | exact ih3 _ _ _
      | exact ih4 _ _ _ _ _
      | exact runaroundlaw03_speaks.mono _
      | exact runaroundref02_Small.mono _ _
      | exact strut_Of.mono _ _
      | exact LeO.none _
      | refine LeO.ite ?_ ?_
      | refine LeO.bind ?_ (fun _ => ?_)
set_option maxHeartbeats 8000000 in
set_option maxRecDepth 100000 in
theorem runaroundlaw03_StrutBounds.calls (k : Nat) (A0 : Option Addr) (c0 : Nat) (l0 : List Int) (r : Bool) (w : World) (hr0 : Kd.C (Kd.int .i64) w A0 l0.length l0) (hc0 : l0.length ≤ c0) (h : runaroundlaw03_StrutBounds.f k l0 = some r) :
    Calls Try.prog 6 #[.slice A0 l0.length c0] w fun e w' => e = .returned (.bool r) ∧ Below w.heap.size w w' := by
  have HR0 := Aside0.mk hr0
  have HC0 := Aside0.mk hc0
  clear hr0 hc0
  have HB := Aside0.mk (Below.refl w.heap.size w)
  have H : ((runaroundlaw03_speaks.f k).bind fun t129 => (if t129 = true then (if (l0.length : Int) > 60 then (runaroundlaw03_StrutBounds.j0 k l0 true) else ((runaroundref02_Small.f k l0).bind fun t130 => (runaroundlaw03_StrutBounds.j0 k l0 (!t130)))) else (runaroundlaw03_StrutBounds.j0 k l0 true))) = some r := h
  clear h
  have HC2 := Aside0.mk H
  clear H
  go_enter Try.func6, Try.ntmps6
  go_upto_region 1 with (fail)
  go_cut [22] (fun v22 wc => ∃ (kq : Nat) (x22_1 : Bool), v22 = .bool x22_1 ∧ Aside0 (runaroundlaw03_StrutBounds.j0 kq l0 x22_1 = some r) ∧ Aside0 (kq ≤ k) ∧ Aside0 (Below w.heap.size w wc))
  case first =>
    have H := HC2.out
    clear HC2
    replace H := Option.bind_eq_some_iff.mp H
    obtain ⟨t129, A30, H⟩ := H
    replace H : (if t129 = true then (if (l0.length : Int) > 60 then (runaroundlaw03_StrutBounds.j0 k l0 true) else ((runaroundref02_Small.f k l0).bind fun t130 => (runaroundlaw03_StrutBounds.j0 k l0 (!t130)))) else (runaroundlaw03_StrutBounds.j0 k l0 true)) = some r := H
    have A3 := Aside0.mk A30
    clear A30
    by_cases c4 : t129 = true
    · subst c4
      have H1 : (if (l0.length : Int) > 60 then (runaroundlaw03_StrutBounds.j0 k l0 true) else ((runaroundref02_Small.f k l0).bind fun t130 => (runaroundlaw03_StrutBounds.j0 k l0 (!t130)))) = some r := by rw [if_pos rfl] at H; exact H
      clear H
      have H := H1
      clear H1
      by_cases c5 : (l0.length : Int) > 60
      · rw [if_pos c5] at H
        have c5b0 : decide (60 < (l0.length : Int)) = true := decide_eq_true c5
        have c5b1 : decide (60 < l0.length) = true := decide_eq_true (by omega)
        clear c5
        (first | rw [c5b0] | (simp only [i64_w, i32_w]; rw [c5b0]) | skip)
        have H' := Aside0.mk H
        clear H
        go_wp2_with (first | ((with_reducible refine gate_callee (f := 15) rfl ?_); refine goesL_ (some 11) rfl rfl Try.func15 (by kernel_rfl) rfl #[] rfl (by (try simp only [List.map_toArray, List.map_cons, List.map_nil]); first | done | rfl | (simp only [List.length_drop, List.length_take]; rfl)) ?_; (with_reducible refine (runaroundlaw03_speaks.calls k  true _ A3.out).mono ?_); rintro e w6 ⟨rfl, hb⟩; refine ⟨_, rfl, ?_⟩; have n0_ := Aside0.mk (below_step (by repeat (first | (with_reducible first | exact HB.out | apply below_alloc | apply pw_below_drewN | apply below_drew1) | exact HB.out)) hb); clear HB; have HB := n0_; clear n0_; (try clear hb); (try clear hb2); (try clear hk); (try clear hi)))
        go_meet
        case rel => exact ⟨_, (true), (by first | rfl | (simp; done) | (simp [*]; done)), H', ⟨by first | omega | exact Nat.le_refl _⟩, ⟨by repeat (first | (with_reducible first | exact HB.out | apply below_alloc | apply pw_below_drewN | apply below_drew1) | exact HB.out)⟩⟩
      · rw [if_neg c5] at H
        have c5b0 : decide (60 < (l0.length : Int)) = false := decide_eq_false c5
        have c5b1 : decide (60 < l0.length) = false := decide_eq_false (by omega)
        clear c5
        (first | rw [c5b0] | (simp only [i64_w, i32_w]; rw [c5b0]) | skip)
        replace H := Option.bind_eq_some_iff.mp H
        obtain ⟨t130, A70, H⟩ := H
        replace H : (runaroundlaw03_StrutBounds.j0 k l0 (!t130)) = some r := H
        have A7 := Aside0.mk A70
        clear A70
        have H' := Aside0.mk H
        clear H
        go_wp2_with (first | ((with_reducible refine gate_callee (f := 15) rfl ?_); refine goesL_ (some 11) rfl rfl Try.func15 (by kernel_rfl) rfl #[] rfl (by (try simp only [List.map_toArray, List.map_cons, List.map_nil]); first | done | rfl | (simp only [List.length_drop, List.length_take]; rfl)) ?_; (with_reducible refine (runaroundlaw03_speaks.calls k  true _ A3.out).mono ?_); rintro e w8 ⟨rfl, hb⟩; refine ⟨_, rfl, ?_⟩; have n0_ := Aside0.mk (below_step (by repeat (first | (with_reducible first | exact HB.out | apply below_alloc | apply pw_below_drewN | apply below_drew1) | exact HB.out)) hb); clear HB; have HB := n0_; clear n0_; (try clear hb); (try clear hb2); (try clear hk); (try clear hi)) | (go_at_call 16; (with_reducible refine (runaroundref02_Small.calls k _ _ l0 t130 _ ?side1 ?side2 A7.out).mono ?_); (case side1 => repeat (first | exact (Kd.C_below HR0.out HB.out) | (with_reducible refine Kd.C_alloc ?_ _) | (with_reducible refine Kd.C_drewN ?_ _) | (with_reducible refine Kd.C_drew ?_))); (case side2 => exact HC0.out); rintro e w' ⟨rfl, ⟨nd, rfl⟩⟩))
        go_meet
        case rel => exact ⟨_, (!t130), (by first | rfl | (simp; done) | (simp [*]; done)), H', ⟨by first | omega | exact Nat.le_refl _⟩, ⟨by repeat (first | (with_reducible first | exact HB.out | apply below_alloc | apply pw_below_drewN | apply below_drew1) | exact HB.out)⟩⟩
    · replace c4 := Bool.eq_false_iff.mpr c4
      subst c4
      have H1 : (runaroundlaw03_StrutBounds.j0 k l0 true) = some r := by rw [if_neg (show ¬ (false = true) by decide)] at H; exact H
      clear H
      have H := H1
      clear H1
      have H' := Aside0.mk H
      clear H
      go_wp2_with (first | ((with_reducible refine gate_callee (f := 15) rfl ?_); refine goesL_ (some 11) rfl rfl Try.func15 (by kernel_rfl) rfl #[] rfl (by (try simp only [List.map_toArray, List.map_cons, List.map_nil]); first | done | rfl | (simp only [List.length_drop, List.length_take]; rfl)) ?_; (with_reducible refine (runaroundlaw03_speaks.calls k  false _ A3.out).mono ?_); rintro e w9 ⟨rfl, hb⟩; refine ⟨_, rfl, ?_⟩; have n0_ := Aside0.mk (below_step (by repeat (first | (with_reducible first | exact HB.out | apply below_alloc | apply pw_below_drewN | apply below_drew1) | exact HB.out)) hb); clear HB; have HB := n0_; clear n0_; (try clear hb); (try clear hb2); (try clear hk); (try clear hi)))
      go_meet
      case rel => exact ⟨_, (true), (by first | rfl | (simp; done) | (simp [*]; done)), H', ⟨by first | omega | exact Nat.le_refl _⟩, ⟨by repeat (first | (with_reducible first | exact HB.out | apply below_alloc | apply pw_below_drewN | apply below_drew1) | exact HB.out)⟩⟩
  case rest =>
    clear HC2
    try clear c1
    try clear p2
    try clear c4
    try clear c5
    try clear c5b0
    try clear c5b1
    try clear c6
    obtain ⟨kq, x22_1, rfl, HA, HJ1, HB⟩ := hcut
    cases kq with
    | zero => exact absurd HA.out (by simp [runaroundlaw03_StrutBounds.j0])
    | succ kj1 =>
      have H := HA.out
      clear HA
      simp only [runaroundlaw03_StrutBounds.j0] at H
      by_cases c10 : x22_1 = true
      · subst c10
        have H1 : ((runaroundlaw03_speaks.f kj1).bind fun t131 => (some t131)) = some r := by rw [if_pos rfl] at H; exact H
        clear H
        have H := H1
        clear H1
        replace H := Option.bind_eq_some_iff.mp H
        obtain ⟨t131, A110, H⟩ := H
        replace H : (some t131) = some r := H
        have A11 := Aside0.mk A110
        clear A110
        obtain rfl := Option.some.inj H
        go_wp2_with (first | ((with_reducible refine gate_callee (f := 15) rfl ?_); refine goesL_ (some 23) rfl rfl Try.func15 (by kernel_rfl) rfl #[] rfl (by (try simp only [List.map_toArray, List.map_cons, List.map_nil]); first | done | rfl | (simp only [List.length_drop, List.length_take]; rfl)) ?_; (with_reducible refine (runaroundlaw03_speaks.calls kj1  t131 _ A11.out).mono ?_); rintro e w12 ⟨rfl, hb⟩; refine ⟨_, rfl, ?_⟩; have n0_ := Aside0.mk (below_step (by repeat (first | (with_reducible first | exact HB.out | apply below_alloc | apply pw_below_drewN | apply below_drew1) | exact HB.out)) hb); clear HB; have HB := n0_; clear n0_; (try clear hb); (try clear hb2); (try clear hk); (try clear hi)))
        go_ret
        exact ⟨by first | rfl | (simp [errW_none, errW_some] <;> rfl) | (simp [*, errW_none, errW_some] <;> rfl), by repeat (first | (with_reducible first | exact HB.out | apply below_alloc | apply pw_below_drewN | apply below_drew1) | exact HB.out)⟩
      · replace c10 := Bool.eq_false_iff.mpr c10
        subst c10
        have H1 : ((strut_Of.f kj1 l0).bind fun bt132 => ((strut_Strut_Sum.f bt132.1 bt132.2).bind fun t134 => (runaroundlaw03_StrutBounds.l0 kj1 l0 t134 0 0 l0 (l0.length : Int) 0))) = some r := by rw [if_neg (show ¬ (false = true) by decide)] at H; exact H
        clear H
        have H := H1
        clear H1
        replace H := Option.bind_eq_some_iff.mp H
        obtain ⟨⟨t132, t133⟩, A130, H⟩ := H
        replace H : ((strut_Strut_Sum.f t132 t133).bind fun t134 => (runaroundlaw03_StrutBounds.l0 kj1 l0 t134 0 0 l0 (l0.length : Int) 0)) = some r := H
        have A13 := Aside0.mk A130
        clear A130
        replace H := Option.bind_eq_some_iff.mp H
        obtain ⟨t134, A140, H⟩ := H
        replace H : (runaroundlaw03_StrutBounds.l0 kj1 l0 t134 0 0 l0 (l0.length : Int) 0) = some r := H
        have A14 := Aside0.mk A140
        clear A140
        have H' := Aside0.mk H
        clear H
        go_wp2_with (first | ((with_reducible refine gate_callee (f := 17) rfl ?_); refine goesL_ (some 25) rfl rfl Try.func17 (by kernel_rfl) rfl #[.slice A0 l0.length c0] rfl (by (try simp only [List.map_toArray, List.map_cons, List.map_nil]); first | done | rfl | (simp only [List.length_drop, List.length_take]; rfl)) ?_; (with_reducible refine (strut_Of.calls kj1 _ _ l0 t132 t133 _ ?side1 ?side2 A13.out).mono ?_); (case side1 => repeat (first | exact (Kd.C_below HR0.out HB.out) | (with_reducible refine Kd.C_alloc ?_ _) | (with_reducible refine Kd.C_drewN ?_ _) | (with_reducible refine Kd.C_drew ?_))); (case side2 => exact HC0.out); rintro e w15 ⟨rfl, hb⟩; refine ⟨_, rfl, ?_⟩; have n0_ := Aside0.mk (below_step (by repeat (first | (with_reducible first | exact HB.out | apply below_alloc | apply pw_below_drewN | apply below_drew1) | exact HB.out)) hb); clear HB; have HB := n0_; clear n0_; (try clear hb); (try clear hb2); (try clear hk); (try clear hi)) | ((with_reducible refine gate_callee (f := 20) rfl ?_); refine goesL_ (some 26) rfl rfl Try.func20 (by kernel_rfl) rfl #[.agg #[.int .i64 t132, .int .i64 t133]] rfl (by (try simp only [List.map_toArray, List.map_cons, List.map_nil]); first | done | rfl | (simp only [List.length_drop, List.length_take]; rfl)) ?_; (with_reducible refine (strut_Strut_Sum.calls t132 t133 t134 _ A14.out).mono ?_); rintro e w16 ⟨rfl, hb⟩; refine ⟨_, rfl, ?_⟩; have n0_ := Aside0.mk (below_step (by repeat (first | (with_reducible first | exact HB.out | apply below_alloc | apply pw_below_drewN | apply below_drew1) | exact HB.out)) hb); clear HB; have HB := n0_; clear n0_; (try clear hb); (try clear hb2); (try clear hk); (try clear hi)))
        go_loopg [4, 5, 29] kj1 (fun kq v4 v5 v29 w' => ∃ (x4_2 : Int) (x5_2 : Int) (x29_2 : Int), v4 = .int .i64 x4_2 ∧ v5 = .int .i64 x5_2 ∧ v29 = .int .i64 x29_2 ∧ Aside0 (runaroundlaw03_StrutBounds.l0 kq l0 t134 x4_2 x5_2 l0 (l0.length : Int) x29_2 = some r) ∧ Aside0 (kq ≤ kj1) ∧ Aside0 (Below w.heap.size w w'))
        case atStart => exact ⟨(0), (0), (0), (by first | rfl | (simp; done) | (simp [*]; done)), (by first | rfl | (simp; done) | (simp [*]; done)), (by first | rfl | (simp; done) | (simp [*]; done)), H', ⟨Nat.le_refl _⟩, ⟨by repeat (first | (with_reducible first | exact HB.out | apply below_alloc | apply pw_below_drewN | apply below_drew1) | exact HB.out)⟩⟩
        case round =>
          clear H'
          try clear c1
          try clear c2
          try clear p2
          try clear c4
          try clear c5
          try clear c5b0
          try clear c5b1
          try clear c6
          try clear c10
          try clear c15
          try clear p2
          obtain ⟨x4_2, x5_2, x29_2, rfl, rfl, rfl, HA, HK2, HB⟩ := hrel
          cases gk with
          | zero => exact absurd HA.out (by simp [runaroundlaw03_StrutBounds.l0])
          | succ k2 =>
            have H := HA.out
            clear HA
            simp only [runaroundlaw03_StrutBounds.l0] at H
            by_cases c17 : x29_2 < (l0.length : Int)
            · rw [if_pos c17] at H
              have c17b0 : decide (x29_2 < (l0.length : Int)) = true := decide_eq_true c17
              clear c17
              by_cases c18 : 0 ≤ x29_2
              · rw [if_pos c18] at H
                have c18b0 : decide (0 ≤ x29_2) = true := decide_eq_true c18
                clear c18
                by_cases c19 : x29_2 < (l0.length : Int)
                · rw [if_pos c19] at H
                  have c19b0 : decide (x29_2 < (l0.length : Int)) = true := decide_eq_true c19
                  clear c19
                  obtain ⟨ji20, hji20⟩ : ∃ j_ : Int, (mx x4_2 (rd l0 x29_2)) = j_ := ⟨_, rfl⟩
                  replace H : (runaroundlaw03_StrutBounds.l0 k2 l0 t134 ji20 (mn x5_2 (rd l0 x29_2)) l0 (l0.length : Int) (wrap64 (x29_2 + 1))) = some r := by first | (rw [hji20] at H; exact H) | (simp only [hji20] at H ⊢; exact H)
                  have hji20_ : (if x4_2 < (rd l0 x29_2) then (rd l0 x29_2) else x4_2) = ji20 := hji20
                  obtain ⟨ji21, hji21⟩ : ∃ j_ : Int, (mn x5_2 (rd l0 x29_2)) = j_ := ⟨_, rfl⟩
                  replace H : (runaroundlaw03_StrutBounds.l0 k2 l0 t134 ji20 ji21 l0 (l0.length : Int) (wrap64 (x29_2 + 1))) = some r := by first | (rw [hji21] at H; exact H) | (simp only [hji21] at H ⊢; exact H)
                  have hji21_ : (if (rd l0 x29_2) < x5_2 then (rd l0 x29_2) else x5_2) = ji21 := hji21
                  have H' := Aside0.mk H
                  clear H
                  have p135 : 0 ≤ (x29_2 : Int) := of_decide_eq_true (by first | (with_reducible assumption) | assumption)
                  have q135 : x29_2 < (l0.length : Int) := of_decide_eq_true (by first | (with_reducible assumption) | assumption)
                  obtain ⟨ad135, e135, hx135_0⟩ := Kd.at_int HR0.out x29_2 p135 q135
                  cases e135
                  replace hx135_0 := (HB.out.cell (World.block_lt_of_cell? w _ hx135_0)).trans hx135_0
                  replace p135 := eq_true p135
                  replace q135 := eq_true q135
                  go_wp2
                  go_roundg k2
                  case measure => have := HJ1.out; have := HK2.out; omega
                  case rel => exact ⟨(ji20), (ji21), (wrap64 (x29_2 + 1)), (by first | rfl | (simp; done) | (simp only [← hji20] <;> (first | rfl | simp)) | (simp [*]; done)), (by first | rfl | (simp; done) | (simp only [← hji21] <;> (first | rfl | simp)) | (simp [*]; done)), (by first | rfl | (simp; done) | (simp [*]; done)), H', ⟨by have := HJ1.out; have := HK2.out; omega⟩, ⟨by repeat (first | (with_reducible first | exact HB.out | apply below_alloc | apply pw_below_drewN | apply below_drew1) | exact HB.out)⟩⟩
                · rw [if_neg c19] at H
                  exact absurd H (by simp)
              · rw [if_neg c18] at H
                exact absurd H (by simp)
            · rw [if_neg c17] at H
              have c17b0 : decide (x29_2 < (l0.length : Int)) = false := decide_eq_false c17
              clear c17
              have HC22 := Aside0.mk H
              clear H
              go_upto_region 10 with (fail)
              go_cut [47] (fun v47 wc => ∃ (kq : Nat) (x47_21 : Bool), v47 = .bool x47_21 ∧ Aside0 (runaroundlaw03_StrutBounds.j2 kq l0 t134 x4_2 x5_2 x47_21 = some r) ∧ Aside0 (kq ≤ k2) ∧ Aside0 (Below w.heap.size w wc))
              case first =>
                have H := HC22.out
                clear HC22
                by_cases c23 : t134 > x4_2
                · rw [if_pos c23] at H
                  have c23b0 : decide (x4_2 < t134) = true := decide_eq_true c23
                  clear c23
                  (first | rw [c23b0] | (simp only [i64_w, i32_w]; rw [c23b0]) | skip)
                  have H' := Aside0.mk H
                  clear H
                  go_wp2
                  go_meet
                  case rel => exact ⟨_, (true), (by first | rfl | (simp; done) | (simp [*]; done)), H', ⟨by have := HJ1.out; have := HK2.out; first | omega | exact Nat.le_refl _⟩, ⟨by repeat (first | (with_reducible first | exact HB.out | apply below_alloc | apply pw_below_drewN | apply below_drew1) | exact HB.out)⟩⟩
                · rw [if_neg c23] at H
                  have c23b0 : decide (x4_2 < t134) = false := decide_eq_false c23
                  clear c23
                  (first | rw [c23b0] | (simp only [i64_w, i32_w]; rw [c23b0]) | skip)
                  have H' := Aside0.mk H
                  clear H
                  go_wp2
                  go_meet
                  case rel => exact ⟨_, (decide (t134 < x5_2)), (by first | rfl | (simp; done) | (simp [*]; done)), H', ⟨by have := HJ1.out; have := HK2.out; first | omega | exact Nat.le_refl _⟩, ⟨by repeat (first | (with_reducible first | exact HB.out | apply below_alloc | apply pw_below_drewN | apply below_drew1) | exact HB.out)⟩⟩
              case rest =>
                clear HC22
                try clear c1
                try clear p1
                try clear q1
                try clear hx1
                try clear c2
                try clear p2
                try clear c4
                try clear c5
                try clear c5b0
                try clear c5b1
                try clear c6
                try clear p6
                try clear c10
                try clear p13
                try clear q13
                try clear hx13
                try clear c15
                try clear c17
                try clear c17b0
                try clear c18
                try clear c18b0
                try clear c19
                try clear c19b0
                try clear c20
                try clear c23
                try clear c23b0
                try clear hx135_0
                try clear p135
                try clear p2
                try clear q135
                obtain ⟨kq, x47_21, rfl, HA, HJ21, HB⟩ := hcut
                cases kq with
                | zero => exact absurd HA.out (by simp [runaroundlaw03_StrutBounds.j2])
                | succ kj21 =>
                  have H := HA.out
                  clear HA
                  simp only [runaroundlaw03_StrutBounds.j2] at H
                  by_cases c24 : x47_21 = true
                  · subst c24
                    have H1 : (some false) = some r := by rw [if_pos rfl] at H; exact H
                    clear H
                    have H := H1
                    clear H1
                    obtain rfl := Option.some.inj H
                    go_wp2
                    go_ret
                    exact ⟨by first | rfl | (simp [errW_none, errW_some] <;> rfl) | (simp [*, errW_none, errW_some] <;> rfl), by repeat (first | (with_reducible first | exact HB.out | apply below_alloc | apply pw_below_drewN | apply below_drew1) | exact HB.out)⟩
                  · replace c24 := Bool.eq_false_iff.mpr c24
                    subst c24
                    have H1 : (if x5_2 = 0 then (if t134 = x4_2 then (if x4_2 = 0 then (runaroundlaw03_StrutBounds.j3 kj21 l0 t134 (t134 != x5_2)) else (runaroundlaw03_StrutBounds.j3 kj21 l0 t134 false)) else (runaroundlaw03_StrutBounds.j3 kj21 l0 t134 true)) else (if x4_2 = 0 then (runaroundlaw03_StrutBounds.j3 kj21 l0 t134 (t134 != x5_2)) else (runaroundlaw03_StrutBounds.j3 kj21 l0 t134 false))) = some r := by rw [if_neg (show ¬ (false = true) by decide)] at H; exact H
                    clear H
                    have H := H1
                    clear H1
                    have HC25 := Aside0.mk H
                    clear H
                    go_upto_region 12 with (fail)
                    go_cut [63] (fun v63 wc => ∃ (kq : Nat) (x63_24 : Bool), v63 = .bool x63_24 ∧ Aside0 (runaroundlaw03_StrutBounds.j3 kq l0 t134 x63_24 = some r) ∧ Aside0 (kq ≤ kj21) ∧ Aside0 (Below w.heap.size w wc))
                    case first =>
                      have H := HC25.out
                      clear HC25
                      by_cases c26 : x5_2 = 0
                      · rw [if_pos c26] at H
                        have c26b0 : (x5_2 == 0) = true := beq_iff_eq.mpr c26
                        have c26b1 : (x5_2 != 0) = false := bne_eq_false_iff_eq.mpr c26
                        clear c26
                        (first | rw [c26b0] | (simp only [i64_w, i32_w]; rw [c26b0]) | skip)
                        by_cases c27 : t134 = x4_2
                        · rw [if_pos c27] at H
                          have c27b0 : (t134 == x4_2) = true := beq_iff_eq.mpr c27
                          have c27b1 : (t134 != x4_2) = false := bne_eq_false_iff_eq.mpr c27
                          clear c27
                          by_cases c28 : x4_2 = 0
                          · rw [if_pos c28] at H
                            have c28b0 : (x4_2 == 0) = true := beq_iff_eq.mpr c28
                            have c28b1 : (x4_2 != 0) = false := bne_eq_false_iff_eq.mpr c28
                            clear c28
                            have H' := Aside0.mk H
                            clear H
                            go_wp2
                            go_meet
                            case rel => exact ⟨_, ((t134 != x5_2)), (by first | rfl | (simp; done) | (simp [*]; done)), H', ⟨by have := HJ1.out; have := HK2.out; have := HJ21.out; first | omega | exact Nat.le_refl _⟩, ⟨by repeat (first | (with_reducible first | exact HB.out | apply below_alloc | apply pw_below_drewN | apply below_drew1) | exact HB.out)⟩⟩
                          · rw [if_neg c28] at H
                            have c28b0 : (x4_2 == 0) = false := beq_eq_false_iff_ne.mpr c28
                            have c28b1 : (x4_2 != 0) = true := bne_iff_ne.mpr c28
                            have H' := Aside0.mk H
                            clear H
                            go_wp2
                            go_meet
                            case rel => exact ⟨_, (false), (by first | rfl | (simp; done) | (simp [*]; done)), H', ⟨by have := HJ1.out; have := HK2.out; have := HJ21.out; first | omega | exact Nat.le_refl _⟩, ⟨by repeat (first | (with_reducible first | exact HB.out | apply below_alloc | apply pw_below_drewN | apply below_drew1) | exact HB.out)⟩⟩
                        · rw [if_neg c27] at H
                          have c27b0 : (t134 == x4_2) = false := beq_eq_false_iff_ne.mpr c27
                          have c27b1 : (t134 != x4_2) = true := bne_iff_ne.mpr c27
                          have H' := Aside0.mk H
                          clear H
                          go_wp2
                          go_meet
                          case rel => exact ⟨_, (true), (by first | rfl | (simp; done) | (simp [*]; done)), H', ⟨by have := HJ1.out; have := HK2.out; have := HJ21.out; first | omega | exact Nat.le_refl _⟩, ⟨by repeat (first | (with_reducible first | exact HB.out | apply below_alloc | apply pw_below_drewN | apply below_drew1) | exact HB.out)⟩⟩
                      · rw [if_neg c26] at H
                        have c26b0 : (x5_2 == 0) = false := beq_eq_false_iff_ne.mpr c26
                        have c26b1 : (x5_2 != 0) = true := bne_iff_ne.mpr c26
                        (first | rw [c26b0] | (simp only [i64_w, i32_w]; rw [c26b0]) | skip)
                        by_cases c29 : x4_2 = 0
                        · rw [if_pos c29] at H
                          have c29b0 : (x4_2 == 0) = true := beq_iff_eq.mpr c29
                          have c29b1 : (x4_2 != 0) = false := bne_eq_false_iff_eq.mpr c29
                          clear c29
                          have H' := Aside0.mk H
                          clear H
                          go_wp2
                          go_meet
                          case rel => exact ⟨_, ((t134 != x5_2)), (by first | rfl | (simp; done) | (simp [*]; done)), H', ⟨by have := HJ1.out; have := HK2.out; have := HJ21.out; first | omega | exact Nat.le_refl _⟩, ⟨by repeat (first | (with_reducible first | exact HB.out | apply below_alloc | apply pw_below_drewN | apply below_drew1) | exact HB.out)⟩⟩
                        · rw [if_neg c29] at H
                          have c29b0 : (x4_2 == 0) = false := beq_eq_false_iff_ne.mpr c29
                          have c29b1 : (x4_2 != 0) = true := bne_iff_ne.mpr c29
                          have H' := Aside0.mk H
                          clear H
                          go_wp2
                          go_meet
                          case rel => exact ⟨_, (false), (by first | rfl | (simp; done) | (simp [*]; done)), H', ⟨by have := HJ1.out; have := HK2.out; have := HJ21.out; first | omega | exact Nat.le_refl _⟩, ⟨by repeat (first | (with_reducible first | exact HB.out | apply below_alloc | apply pw_below_drewN | apply below_drew1) | exact HB.out)⟩⟩
                    case rest =>
                      clear HC25
                      try clear c1
                      try clear p1
                      try clear q1
                      try clear hx1
                      try clear c2
                      try clear p2
                      try clear c4
                      try clear c5
                      try clear c5b0
                      try clear c5b1
                      try clear c6
                      try clear p6
                      try clear c10
                      try clear p13
                      try clear q13
                      try clear hx13
                      try clear c15
                      try clear c17
                      try clear c17b0
                      try clear c18
                      try clear c18b0
                      try clear c19
                      try clear c19b0
                      try clear c20
                      try clear c23
                      try clear c23b0
                      try clear c24
                      try clear c26
                      try clear c26b0
                      try clear c26b1
                      try clear c27
                      try clear c27b0
                      try clear c27b1
                      try clear c28
                      try clear c28b0
                      try clear c28b1
                      try clear c29
                      try clear c29b0
                      try clear c29b1
                      try clear hx135_0
                      try clear p1
                      try clear p13
                      try clear p135
                      try clear p2
                      try clear p6
                      try clear q1
                      try clear q13
                      try clear q135
                      obtain ⟨kq, x63_24, rfl, HA, HJ24, HB⟩ := hcut
                      cases kq with
                      | zero => exact absurd HA.out (by simp [runaroundlaw03_StrutBounds.j3])
                      | succ kj24 =>
                        have H := HA.out
                        clear HA
                        simp only [runaroundlaw03_StrutBounds.j3] at H
                        by_cases c30 : x63_24 = true
                        · subst c30
                          have H1 : (some false) = some r := by rw [if_pos rfl] at H; exact H
                          clear H
                          have H := H1
                          clear H1
                          obtain rfl := Option.some.inj H
                          go_wp2
                          go_ret
                          exact ⟨by first | rfl | (simp [errW_none, errW_some] <;> rfl) | (simp [*, errW_none, errW_some] <;> rfl), by repeat (first | (with_reducible first | exact HB.out | apply below_alloc | apply pw_below_drewN | apply below_drew1) | exact HB.out)⟩
                        · replace c30 := Bool.eq_false_iff.mpr c30
                          subst c30
                          have H1 : (runaroundlaw03_StrutBounds.l1 kj24 t134 ([] : List Int) l0 (l0.length : Int) 0) = some r := by rw [if_neg (show ¬ (false = true) by decide)] at H; exact H
                          clear H
                          have H := H1
                          clear H1
                          have H' := Aside0.mk H
                          clear H
                          go_wp2
                          go_loopg [8, 66] kj24 (fun kq v8 v66 w' => ∃ (x8_5 : List Int) (x66_5 : Int), v66 = .int .i64 x66_5 ∧ Aside0 (runaroundlaw03_StrutBounds.l1 kq t134 x8_5 l0 (l0.length : Int) x66_5 = some r) ∧ Aside0 (kq ≤ kj24) ∧ Aside0 (Kd.R (Kd.int .i64) 3 w' w.heap.size (fun _ => True) v8 x8_5) ∧ Aside0 (Below w.heap.size w w'))
                          case atStart => exact ⟨(([] : List Int)), (0), (by first | rfl | (simp; done) | (simp [*]; done)), H', ⟨Nat.le_refl _⟩, ⟨by first | exact Kd.R_nil _ _ _ _ _ | exact Kd.N_nil _ _ _ _ _ | exact Kd.V_nil _ _ _ _ _ | exact Kd.Q_nil _ _ _ _ _ | exact Kd.S_nil _ _ _ _ _⟩, ⟨by repeat (first | (with_reducible first | exact HB.out | apply below_alloc | apply pw_below_drewN | apply below_drew1) | exact HB.out)⟩⟩
                          case round =>
                            clear H'
                            try clear c1
                            try clear p1
                            try clear q1
                            try clear hx1
                            try clear c2
                            try clear p2
                            try clear c3
                            try clear c4
                            try clear c5
                            try clear c5b0
                            try clear c5b1
                            try clear c6
                            try clear p6
                            try clear c10
                            try clear p13
                            try clear q13
                            try clear hx13
                            try clear c15
                            try clear c17
                            try clear c17b0
                            try clear c18
                            try clear c18b0
                            try clear c19
                            try clear c19b0
                            try clear c20
                            try clear c23
                            try clear c23b0
                            try clear c24
                            try clear c26
                            try clear c26b0
                            try clear c26b1
                            try clear c27
                            try clear c27b0
                            try clear c27b1
                            try clear c28
                            try clear c28b0
                            try clear c28b1
                            try clear c29
                            try clear c29b0
                            try clear c29b1
                            try clear c30
                            try clear hx135_0
                            try clear p1
                            try clear p13
                            try clear p135
                            try clear p2
                            try clear p6
                            try clear q1
                            try clear q13
                            try clear q135
                            obtain ⟨x8_5, x66_5, rfl, HA, HK5, HO_8, HB⟩ := hrel
                            cases gk with
                            | zero => exact absurd HA.out (by simp [runaroundlaw03_StrutBounds.l1])
                            | succ k5 =>
                              have H := HA.out
                              clear HA
                              simp only [runaroundlaw03_StrutBounds.l1] at H
                              by_cases c31 : x66_5 < (l0.length : Int)
                              · rw [if_pos c31] at H
                                have c31b0 : decide (x66_5 < (l0.length : Int)) = true := decide_eq_true c31
                                clear c31
                                by_cases c32 : 0 ≤ x66_5
                                · rw [if_pos c32] at H
                                  have c32b0 : decide (0 ≤ x66_5) = true := decide_eq_true c32
                                  clear c32
                                  by_cases c33 : x66_5 < (l0.length : Int)
                                  · rw [if_pos c33] at H
                                    have c33b0 : decide (x66_5 < (l0.length : Int)) = true := decide_eq_true c33
                                    clear c33
                                    by_cases c34 : x8_5.length < 17592186044416
                                    · rw [if_pos c34] at H
                                      have LMc34 := Aside0.mk c34
                                      clear c34
                                      obtain ⟨y137, hy137⟩ : ∃ y_ : List Int, y_ = (x8_5 ++ [wrap64 (-(rd l0 x66_5))]) := ⟨_, rfl⟩
                                      replace H : (runaroundlaw03_StrutBounds.l1 k5 t134 y137 l0 (l0.length : Int) (wrap64 (x66_5 + 1))) = some r := by first | (rw [hy137]; with_reducible exact H) | (have H2_ := (Option.bind_some _ _).symm.trans H; rw [hy137]; with_reducible exact H2_) | (have H2_ := (Option.bind_some _ _).symm.trans H; with_reducible exact H2_) | with_reducible exact H | (rw [hy137]; exact H) | exact H
                                      have Ny137 := Aside0.mk hy137
                                      clear hy137
                                      have H' := Aside0.mk H
                                      clear H
                                      have p136 : 0 ≤ (x66_5 : Int) := of_decide_eq_true (by first | (with_reducible assumption) | assumption)
                                      have q136 : x66_5 < (l0.length : Int) := of_decide_eq_true (by first | (with_reducible assumption) | assumption)
                                      obtain ⟨ad136, e136, hx136_0⟩ := Kd.at_int HR0.out x66_5 p136 q136
                                      cases e136
                                      replace hx136_0 := (HB.out.cell (World.block_lt_of_cell? w _ hx136_0)).trans hx136_0
                                      replace p136 := eq_true p136
                                      replace q136 := eq_true q136
                                      go_wp2_with (first | ((with_reducible refine gate_builtin (b := .append) (xs := #[.tmp 70, .tmp 73]) rfl ?_); (try (refine gate_guard (by rfl) ?_; dsimp only)); at_builtin; refine Kd.R_append (Kd.int .i64) (w0 := w) w.heap.size rfl (.tmp 70) (.tmp 73) 22 3 (.int .i64 0) 8 rfl Try.underlying22 info3 rfl (by decide) (by omega) u8 x8_5 (wrap64 (-(rd l0 x66_5))) [.int .i64 (wrap64 (-(rd l0 x66_5)))] (fun _ => True) (fun _ => False) rfl rfl ?aP (fun _ hk => hk.elim) ?aF ?aO ?aB ?aS ?aL ?_; (case aP => exact rfl); (case aB => exact (by repeat (first | (with_reducible first | exact HB.out | apply below_alloc | apply pw_below_drewN | apply below_drew1) | exact HB.out))); (case aF => exact (fun _ _ => trivial)); (case aO => exact (by (with_reducible repeat (first | apply Kd.R_alloc | apply Kd.R_drewN | apply Kd.R_drew)); exact HO_8.out)); (case aS => exact (below_size (by repeat (first | (with_reducible first | exact HB.out | apply below_alloc | apply pw_below_drewN | apply below_drew1) | exact HB.out)))); (case aL => have := LMc34.out; omega); intro v138 w35 ho hb hg hat; rw [← Ny137.out] at ho; have n0_ := Aside0.mk (hb); have n1_ := Aside0.mk (ho); clear HB; clear HO_8; have HB := n0_; have HO139 := n1_; clear n0_ n1_; clear ho hb hg hat))
                                      go_roundg k5
                                      case measure => have := HJ1.out; have := HK2.out; have := HJ21.out; have := HJ24.out; have := HK5.out; omega
                                      case rel => exact ⟨(y137), (wrap64 (x66_5 + 1)), (by first | rfl | (simp; done) | (simp [*]; done)), H', ⟨by have := HJ1.out; have := HK2.out; have := HJ21.out; have := HJ24.out; have := HK5.out; omega⟩, ⟨by (with_reducible repeat (first | apply Kd.R_alloc | apply Kd.R_drewN | apply Kd.R_drew)); exact HO139.out⟩, ⟨by repeat (first | (with_reducible first | exact HB.out | apply below_alloc | apply pw_below_drewN | apply below_drew1) | exact HB.out)⟩⟩
                                    · rw [if_neg c34] at H
                                      exact absurd H (by simp)
                                  · rw [if_neg c33] at H
                                    exact absurd H (by simp)
                                · rw [if_neg c32] at H
                                  exact absurd H (by simp)
                              · rw [if_neg c31] at H
                                have c31b0 : decide (x66_5 < (l0.length : Int)) = false := decide_eq_false c31
                                clear c31
                                replace H := Option.bind_eq_some_iff.mp H
                                obtain ⟨⟨t140, t141⟩, A360, H⟩ := H
                                replace H : ((strut_Strut_Sum.f t140 t141).bind fun t142 => (some (t142 == (wrap64 (-t134))))) = some r := H
                                have A36 := Aside0.mk A360
                                clear A360
                                replace H := Option.bind_eq_some_iff.mp H
                                obtain ⟨t142, A370, H⟩ := H
                                replace H : (some (t142 == (wrap64 (-t134)))) = some r := H
                                have A37 := Aside0.mk A370
                                clear A370
                                obtain rfl := Option.some.inj H
                                obtain ⟨Ao38, co38, eo38⟩ := Kd.R_slice HO_8.out
                                subst eo38
                                go_wp2_with (first | ((with_reducible refine gate_callee (f := 17) rfl ?_); refine goesL_ (some 77) rfl rfl Try.func17 (by kernel_rfl) rfl #[.slice Ao38 x8_5.length co38] rfl (by (try simp only [List.map_toArray, List.map_cons, List.map_nil]); first | done | rfl | (simp only [List.length_drop, List.length_take]; rfl)) ?_; (with_reducible refine (strut_Of.calls k5 _ _ x8_5 t140 t141 _ ?side1 ?side2 A36.out).mono ?_); (case side1 => repeat (first | exact (Kd.R_reads' HO_8.out).2.2 | (with_reducible refine Kd.C_alloc ?_ _) | (with_reducible refine Kd.C_drewN ?_ _) | (with_reducible refine Kd.C_drew ?_))); (case side2 => exact (Kd.R_reads' HO_8.out).2.1); rintro e w39 ⟨rfl, hb⟩; refine ⟨_, rfl, ?_⟩; have n0_ := Aside0.mk (Kd.R_below (by (with_reducible repeat (first | apply Kd.R_alloc | apply Kd.R_drewN | apply Kd.R_drew)); exact HO_8.out) hb); have n1_ := Aside0.mk (below_step (by repeat (first | (with_reducible first | exact HB.out | apply below_alloc | apply pw_below_drewN | apply below_drew1) | exact HB.out)) hb); clear HO_8; clear HB; have HO_8 := n0_; have HB := n1_; clear n0_ n1_; (try clear hb); (try clear hb2); (try clear hk); (try clear hi)) | ((with_reducible refine gate_callee (f := 20) rfl ?_); refine goesL_ (some 78) rfl rfl Try.func20 (by kernel_rfl) rfl #[.agg #[.int .i64 t140, .int .i64 t141]] rfl (by (try simp only [List.map_toArray, List.map_cons, List.map_nil]); first | done | rfl | (simp only [List.length_drop, List.length_take]; rfl)) ?_; (with_reducible refine (strut_Strut_Sum.calls t140 t141 t142 _ A37.out).mono ?_); rintro e w40 ⟨rfl, hb⟩; refine ⟨_, rfl, ?_⟩; have n0_ := Aside0.mk (Kd.R_below (by (with_reducible repeat (first | apply Kd.R_alloc | apply Kd.R_drewN | apply Kd.R_drew)); exact HO_8.out) hb); have n1_ := Aside0.mk (below_step (by repeat (first | (with_reducible first | exact HB.out | apply below_alloc | apply pw_below_drewN | apply below_drew1) | exact HB.out)) hb); clear HO_8; clear HB; have HO_8 := n0_; have HB := n1_; clear n0_ n1_; (try clear hb); (try clear hb2); (try clear hk); (try clear hi)))
                                go_ret
                                exact ⟨by first | rfl | (simp [errW_none, errW_some] <;> rfl) | (simp [*, errW_none, errW_some] <;> rfl), by repeat (first | (with_reducible first | exact HB.out | apply below_alloc | apply pw_below_drewN | apply below_drew1) | exact HB.out)⟩

/-- THE ONE PURE STATEMENT of runaroundlaw03_StrutBounds: yours. -/
def runaroundlaw03_StrutBounds.Pure : Prop := ∀ (l0 : List Int), l0.length ≤ maxLen → l0.length * 8 ≤ 140737488351232 → (∀ x ∈ l0, (Lit.int .i64 x).wf = true) → ∃ k, runaroundlaw03_StrutBounds.f k l0 = some true
theorem runaroundlaw03_StrutBounds.walk (P : runaroundlaw03_StrutBounds.Pure) (a0 : Option Addr) (len0 cap0 : Nat) (z0 : List Int) (w : World) (w0 : (a0 = none ∧ len0 = 0 ∧ cap0 = 0 ∧ z0 = []) ∨ ∃ x, a0 = some x ∧ len0 ≤ cap0 ∧ cap0 ≤ maxLen ∧ z0.length = cap0 ∧ (∀ i, i < z0.length → w.cell? (x.add i) = some (.int .i64 (z0.getD i 0))) ∧ ∀ n ∈ z0, (Lit.int .i64 n).wf = true) (y0 : len0 * 8 ≤ 140737488351232) :
    Calls Try.prog 6 #[.slice a0 len0 cap0] w fun e w' => e = .returned (.bool true) ∧ Below w.heap.size w w' := by
  obtain ⟨l0, rfl, hr0, hm0, hw0, hc0⟩ := ReadsInt.ofRowC w0
  obtain ⟨k, h⟩ := P l0 hm0 y0 hw0
  refine (runaroundlaw03_StrutBounds.calls k _ _ l0 true w (Kd.C_of_reads (d := (0 : Int)) (h1 := fun _ => rfl) hr0) hc0 h).mono ?_
  rintro e w' ⟨rfl, hd⟩
  exact ⟨rfl, hd⟩

end Go.Proofs.Ytpojdmikpodoaaa.PStrutBounds
