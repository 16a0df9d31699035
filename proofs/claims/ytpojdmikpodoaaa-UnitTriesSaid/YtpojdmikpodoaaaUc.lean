/- The functions of layer 1 (unit) and of its reference, and what they come to; a Try. -/
import Derived.Test.YtpojdmikpodoaaaWa
import Derived.Test.YtpojdmikpodoaaaUt
import Derived.Test.YtpojdmikpodoaaaAwZ
import Derived.KernelRfl
namespace Go.Proofs.Ytpojdmikpodoaaa.W
open Go Go.Proofs Go.Proofs.Ytpojdmikpodoaaa.Aw
def may (n : Int) : Bool := decide (-281474976710656 < n) && decide (n < 281474976710656)
def addO (a b : Int) : Option Int := bif may a && may b && may (a + b) then some (a + b) else none
def subO (a b : Int) : Option Int := bif may a && may b && may (a - b) then some (a - b) else none
abbrev optA (o : Option Int) : AV := .tuple (.cons (.int .i64 (o.getD 0)) (.cons (.bool o.isSome) .nl))
def consU0 : Cons := []
def twosU0 : Cons2 := []
def pansU0 : Cons3 := []
def itersU0 : Cons4 := []
abbrev eU0 : Env := envOf4 consU0 twosU0 pansU0 itersU0
theorem allconsU0 : ∀ c ∈ consU0, ConOk Try.prog c := all_nil
theorem alltwosU0 : ∀ c ∈ twosU0, ConOk2 Try.prog c := all_nil
theorem allpansU0 : ∀ c ∈ pansU0, ConOk3 Try.prog c := all_nil
theorem allitersU0 : ∀ c ∈ itersU0, ConOk4 Try.prog c := all_nil
theorem envU0 : EnvOk Try.prog eU0 := envOf4_ok _ _ _ _ allconsU0 alltwosU0 allpansU0 allitersU0
theorem may_iff (n : Int) : may n = true ↔ -281474976710656 < n ∧ n < 281474976710656 := by simp [may]
theorem may_no (n : Int) : may n = false ↔ ¬ (-281474976710656 < n ∧ n < 281474976710656) := by rw [← may_iff]; cases may n <;> simp
def con65 : List AV → Option Tells
  | [.int .i64 n] => some ⟨[], .bool (may n), []⟩
  | _ => none
theorem f65_run (R : AV → List Ob → Prop) (n : Int) : fnA tab eU0 Try.f65 (bodyOf Try.f65) [.int .i64 n] R = (bif decide (n > -281474976710656) then R (AV.bool (decide (n < 281474976710656))) [] else R (AV.bool false) []) := by kernel_rfl
theorem ok65 : ConOk Try.prog (65, con65) := by
  intro args t h hp
  simp only [con65] at h
  split at h
  · rename_i n
    cases h
    refine fn_ok envU0 tab_ok mixed Try.func65 (by kernel_rfl) (by kernel_rfl) ?_
    rw [f65_run]
    dsimp only
    (repeat' first | refine dec_split (fun _ => ?_) (fun _ => ?_) | refine ndec_split (fun _ => ?_) (fun _ => ?_) | refine cond_split (fun _ => ?_) (fun _ => ?_) | refine dec_and rfl ?_) <;> exact ⟨by congr 1; simp_all [may] <;> intros <;> omega, rfl⟩
  · cases h
def con62 : List AV → Option Tells
  | [.int .i64 n] => some ⟨[], .bool (may n), []⟩
  | _ => none
theorem f62_run (R : AV → List Ob → Prop) (n : Int) : fnA tab eU0 Try.f62 (bodyOf Try.f62) [.int .i64 n] R = (bif decide (n ≥ -281474976710655) then R (AV.bool (decide (n ≤ 281474976710655))) [] else R (AV.bool false) []) := by kernel_rfl
theorem ok62 : ConOk Try.prog (62, con62) := by
  intro args t h hp
  simp only [con62] at h
  split at h
  · rename_i n
    cases h
    refine fn_ok envU0 tab_ok mixed Try.func62 (by kernel_rfl) (by kernel_rfl) ?_
    rw [f62_run]
    dsimp only
    (repeat' first | refine dec_split (fun _ => ?_) (fun _ => ?_) | refine ndec_split (fun _ => ?_) (fun _ => ?_) | refine cond_split (fun _ => ?_) (fun _ => ?_) | refine dec_and rfl ?_) <;> exact ⟨by congr 1; rw [Bool.eq_iff_iff, may_iff]; simp_all <;> omega, rfl⟩
  · cases h
def con54 : List AV → Option Tells
  | [.int .i64 a, .int .i64 b] => some ⟨[], AV.int IntKind.i64 (IntKind.i64.wrap (a + b)), []⟩
  | _ => none
theorem f54_run (R : AV → List Ob → Prop) (a b : Int) : fnA tab eU0 Try.f54 (bodyOf Try.f54) [.int .i64 a, .int .i64 b] R = (R (AV.int IntKind.i64 (IntKind.i64.wrap (a + b))) []) := by kernel_rfl
theorem ok54 : ConOk Try.prog (54, con54) := by
  intro args t h hp
  simp only [con54] at h
  split at h
  · cases h
    refine fn_ok envU0 tab_ok mixed Try.func54 (by kernel_rfl) (by kernel_rfl) ?_
    rw [f54_run]
    exact ⟨rfl, rfl⟩
  · cases h
def con55 : List AV → Option Tells
  | [.int .i64 a, .int .i64 b] => some ⟨[], AV.int IntKind.i64 (IntKind.i64.wrap (a - b)), []⟩
  | _ => none
theorem f55_run (R : AV → List Ob → Prop) (a b : Int) : fnA tab eU0 Try.f55 (bodyOf Try.f55) [.int .i64 a, .int .i64 b] R = (R (AV.int IntKind.i64 (IntKind.i64.wrap (a - b))) []) := by kernel_rfl
theorem ok55 : ConOk Try.prog (55, con55) := by
  intro args t h hp
  simp only [con55] at h
  split at h
  · cases h
    refine fn_ok envU0 tab_ok mixed Try.func55 (by kernel_rfl) (by kernel_rfl) ?_
    rw [f55_run]
    exact ⟨rfl, rfl⟩
  · cases h
def consU1 : Cons := (65, con65) :: (62, con62) :: (54, con54) :: (55, con55) :: consU0
def twosU1 : Cons2 := twosU0
def pansU1 : Cons3 := pansU0
def itersU1 : Cons4 := itersU0
abbrev eU1 : Env := envOf4 consU1 twosU1 pansU1 itersU1
theorem allconsU1 : ∀ c ∈ consU1, ConOk Try.prog c := all_cons ok65 (all_cons ok62 (all_cons ok54 (all_cons ok55 allconsU0)))
theorem alltwosU1 : ∀ c ∈ twosU1, ConOk2 Try.prog c := alltwosU0
theorem allpansU1 : ∀ c ∈ pansU1, ConOk3 Try.prog c := allpansU0
theorem allitersU1 : ∀ c ∈ itersU1, ConOk4 Try.prog c := allitersU0
theorem envU1 : EnvOk Try.prog eU1 := envOf4_ok _ _ _ _ allconsU1 alltwosU1 allpansU1 allitersU1
theorem may_wrap_add {a b : Int} (ha : may a = true) (hb : may b = true) : IntKind.wrap .i64 (a + b) = a + b := by
  rw [may_iff] at ha hb
  exact wrap_id _ (by omega)
theorem may_wrap_sub {a b : Int} (ha : may a = true) (hb : may b = true) : IntKind.wrap .i64 (a - b) = a - b := by
  rw [may_iff] at ha hb
  exact wrap_id _ (by omega)
def con53 : List AV → Option Tells
  | [.int .i64 a, .int .i64 b, .fn (.func 54) .nl .nl] => some ⟨[], optA (addO a b), []⟩
  | _ => none
theorem f53_run (R : AV → List Ob → Prop) (a b : Int) : fnA tab eU1 Try.f53 (bodyOf Try.f53) [.int .i64 a, .int .i64 b, .fn (.func 54) .nl .nl] R = (bif !!may a then bif !may b then R ((AV.int IntKind.i64 0).cons ((AV.bool false).cons AV.nl)).tuple [] else bif may (IntKind.i64.wrap (a + b)) then R ((AV.int IntKind.i64 (IntKind.i64.wrap (a + b))).cons ((AV.bool true).cons AV.nl)).tuple [] else R ((AV.int IntKind.i64 0).cons ((AV.bool false).cons AV.nl)).tuple [] else R ((AV.int IntKind.i64 0).cons ((AV.bool false).cons AV.nl)).tuple []) := by kernel_rfl
theorem ok53 : ConOk Try.prog (53, con53) := by
  intro args t h hp
  simp only [con53] at h
  split at h
  · rename_i a b
    cases h
    refine fn_ok envU1 tab_ok mixed Try.func53 (by kernel_rfl) (by kernel_rfl) ?_
    rw [f53_run]
    dsimp only
    cases ha : may a with
    | false => exact ⟨by simp [addO, ha], rfl⟩
    | true =>
      cases hb : may b with
      | false => exact ⟨by simp [addO, ha, hb], rfl⟩
      | true =>
        rw [may_wrap_add ha hb]
        cases hs : may (a + b) with
        | false => exact ⟨by simp [addO, ha, hb, hs], rfl⟩
        | true => exact ⟨by simp [addO, ha, hb, hs], rfl⟩
  · cases h
def con53s : List AV → Option Tells
  | [.int .i64 a, .int .i64 b, .fn (.func 55) .nl .nl] => some ⟨[], optA (subO a b), []⟩
  | _ => none
theorem f53s_run (R : AV → List Ob → Prop) (a b : Int) : fnA tab eU1 Try.f53 (bodyOf Try.f53) [.int .i64 a, .int .i64 b, .fn (.func 55) .nl .nl] R = (bif !!may a then bif !may b then R ((AV.int IntKind.i64 0).cons ((AV.bool false).cons AV.nl)).tuple [] else bif may (IntKind.i64.wrap (a - b)) then R ((AV.int IntKind.i64 (IntKind.i64.wrap (a - b))).cons ((AV.bool true).cons AV.nl)).tuple [] else R ((AV.int IntKind.i64 0).cons ((AV.bool false).cons AV.nl)).tuple [] else R ((AV.int IntKind.i64 0).cons ((AV.bool false).cons AV.nl)).tuple []) := by kernel_rfl
theorem ok53s : ConOk Try.prog (53, con53s) := by
  intro args t h hp
  simp only [con53s] at h
  split at h
  · rename_i a b
    cases h
    refine fn_ok envU1 tab_ok mixed Try.func53 (by kernel_rfl) (by kernel_rfl) ?_
    rw [f53s_run]
    dsimp only
    cases ha : may a with
    | false => exact ⟨by simp [subO, ha], rfl⟩
    | true =>
      cases hb : may b with
      | false => exact ⟨by simp [subO, ha, hb], rfl⟩
      | true =>
        rw [may_wrap_sub ha hb]
        cases hs : may (a - b) with
        | false => exact ⟨by simp [subO, ha, hb, hs], rfl⟩
        | true => exact ⟨by simp [subO, ha, hb, hs], rfl⟩
  · cases h
def con44 : List AV → Option Tells
  | [.int .i64 a, .int .i64 b] => some ⟨[], optA (addO a b), []⟩
  | _ => none
theorem f44_run (R : AV → List Ob → Prop) (a b : Int) : fnA tab eU1 Try.f44 (bodyOf Try.f44) [.int .i64 a, .int .i64 b] R = (bif may a then bif may b then bif may (IntKind.i64.wrap (a + b)) then R ((AV.int IntKind.i64 (IntKind.i64.wrap (a + b))).cons ((AV.bool true).cons AV.nl)).tuple [] else R ((AV.int IntKind.i64 0).cons ((AV.bool false).cons AV.nl)).tuple [] else R ((AV.int IntKind.i64 0).cons ((AV.bool false).cons AV.nl)).tuple [] else R ((AV.int IntKind.i64 0).cons ((AV.bool false).cons AV.nl)).tuple []) := by kernel_rfl
theorem ok44 : ConOk Try.prog (44, con44) := by
  intro args t h hp
  simp only [con44] at h
  split at h
  · rename_i a b
    cases h
    refine fn_ok envU1 tab_ok mixed Try.func44 (by kernel_rfl) (by kernel_rfl) ?_
    rw [f44_run]
    dsimp only
    cases ha : may a with
    | false => exact ⟨by simp [addO, ha], rfl⟩
    | true =>
      cases hb : may b with
      | false => exact ⟨by simp [addO, ha, hb], rfl⟩
      | true =>
        rw [may_wrap_add ha hb]
        cases hs : may (a + b) with
        | false => exact ⟨by simp [addO, ha, hb, hs], rfl⟩
        | true => exact ⟨by simp [addO, ha, hb, hs], rfl⟩
  · cases h
def con45 : List AV → Option Tells
  | [.int .i64 a, .int .i64 b] => some ⟨[], optA (subO a b), []⟩
  | _ => none
theorem f45_run (R : AV → List Ob → Prop) (a b : Int) : fnA tab eU1 Try.f45 (bodyOf Try.f45) [.int .i64 a, .int .i64 b] R = (bif may a then bif may b then bif may (IntKind.i64.wrap (a - b)) then R ((AV.int IntKind.i64 (IntKind.i64.wrap (a - b))).cons ((AV.bool true).cons AV.nl)).tuple [] else R ((AV.int IntKind.i64 0).cons ((AV.bool false).cons AV.nl)).tuple [] else R ((AV.int IntKind.i64 0).cons ((AV.bool false).cons AV.nl)).tuple [] else R ((AV.int IntKind.i64 0).cons ((AV.bool false).cons AV.nl)).tuple []) := by kernel_rfl
theorem ok45 : ConOk Try.prog (45, con45) := by
  intro args t h hp
  simp only [con45] at h
  split at h
  · rename_i a b
    cases h
    refine fn_ok envU1 tab_ok mixed Try.func45 (by kernel_rfl) (by kernel_rfl) ?_
    rw [f45_run]
    dsimp only
    cases ha : may a with
    | false => exact ⟨by simp [subO, ha], rfl⟩
    | true =>
      cases hb : may b with
      | false => exact ⟨by simp [subO, ha, hb], rfl⟩
      | true =>
        rw [may_wrap_sub ha hb]
        cases hs : may (a - b) with
        | false => exact ⟨by simp [subO, ha, hb, hs], rfl⟩
        | true => exact ⟨by simp [subO, ha, hb, hs], rfl⟩
  · cases h
def consU2 : Cons := (53, con53) :: (53, con53s) :: (44, con44) :: (45, con45) :: consU1
def twosU2 : Cons2 := twosU1
def pansU2 : Cons3 := pansU1
def itersU2 : Cons4 := itersU1
abbrev eU2 : Env := envOf4 consU2 twosU2 pansU2 itersU2
theorem allconsU2 : ∀ c ∈ consU2, ConOk Try.prog c := all_cons ok53 (all_cons ok53s (all_cons ok44 (all_cons ok45 allconsU1)))
theorem alltwosU2 : ∀ c ∈ twosU2, ConOk2 Try.prog c := alltwosU1
theorem allpansU2 : ∀ c ∈ pansU2, ConOk3 Try.prog c := allpansU1
theorem allitersU2 : ∀ c ∈ itersU2, ConOk4 Try.prog c := allitersU1
theorem envU2 : EnvOk Try.prog eU2 := envOf4_ok _ _ _ _ allconsU2 alltwosU2 allpansU2 allitersU2
def con26 : List AV → Option Tells
  | [.int .i64 a, .int .i64 b] => some ⟨[], ((AV.int IntKind.i64 ((addO a b).getD 0)).cons ((AV.bool (addO a b).isSome).cons AV.nl)).tuple, []⟩
  | _ => none
theorem f26_run (R : AV → List Ob → Prop) (a b : Int) : fnA tab eU2 Try.f26 (bodyOf Try.f26) [.int .i64 a, .int .i64 b] R = (R ((AV.int IntKind.i64 ((addO a b).getD 0)).cons ((AV.bool (addO a b).isSome).cons AV.nl)).tuple []) := by kernel_rfl
theorem ok26 : ConOk Try.prog (26, con26) := by
  intro args t h hp
  simp only [con26] at h
  split at h
  · cases h
    refine fn_ok envU2 tab_ok mixed Try.func26 (by kernel_rfl) (by kernel_rfl) ?_
    rw [f26_run]
    exact ⟨rfl, rfl⟩
  · cases h
def con27 : List AV → Option Tells
  | [.int .i64 a, .int .i64 b] => some ⟨[], ((AV.int IntKind.i64 ((subO a b).getD 0)).cons ((AV.bool (subO a b).isSome).cons AV.nl)).tuple, []⟩
  | _ => none
theorem f27_run (R : AV → List Ob → Prop) (a b : Int) : fnA tab eU2 Try.f27 (bodyOf Try.f27) [.int .i64 a, .int .i64 b] R = (R ((AV.int IntKind.i64 ((subO a b).getD 0)).cons ((AV.bool (subO a b).isSome).cons AV.nl)).tuple []) := by kernel_rfl
theorem ok27 : ConOk Try.prog (27, con27) := by
  intro args t h hp
  simp only [con27] at h
  split at h
  · cases h
    refine fn_ok envU2 tab_ok mixed Try.func27 (by kernel_rfl) (by kernel_rfl) ?_
    rw [f27_run]
    exact ⟨rfl, rfl⟩
  · cases h
def con64 : List AV → List Ob → Option TellsP
  | [.int .i64 n, .bool k], [] => some ⟨[], !k, over, .int .i64 n, [], []⟩
  | _, _ => none
theorem f64_run (R : AV → List Ob → Prop) (RP : Value → List Ob → Prop) (n : Int) (k : Bool) : fnP tab eU2 Try.f64 (bodyOf Try.f64) [.int .i64 n, .bool k] [] R RP = (bif !k then RP (Value.iface 74 (Value.agg #[])) [] else R (AV.int IntKind.i64 n) []) := by kernel_rfl
theorem ok64 : ConOk3 Try.prog (64, con64) := by
  intro args obs t h hp
  simp only [con64] at h
  split at h
  · rename_i n k
    cases h
    refine fn_okP envU2 tab_ok mixed Try.func64 (by kernel_rfl) (by kernel_rfl) ?_
    rw [f64_run]
    dsimp only
    cases k <;> exact ⟨rfl, rfl, rfl⟩
  · cases h
def consU3 : Cons := (26, con26) :: (27, con27) :: consU2
def twosU3 : Cons2 := twosU2
def pansU3 : Cons3 := (64, con64) :: pansU2
def itersU3 : Cons4 := itersU2
abbrev eU3 : Env := envOf4 consU3 twosU3 pansU3 itersU3
theorem allconsU3 : ∀ c ∈ consU3, ConOk Try.prog c := all_cons ok26 (all_cons ok27 allconsU2)
theorem alltwosU3 : ∀ c ∈ twosU3, ConOk2 Try.prog c := alltwosU2
theorem allpansU3 : ∀ c ∈ pansU3, ConOk3 Try.prog c := all_cons ok64 allpansU2
theorem allitersU3 : ∀ c ∈ itersU3, ConOk4 Try.prog c := allitersU2
theorem envU3 : EnvOk Try.prog eU3 := envOf4_ok _ _ _ _ allconsU3 alltwosU3 allpansU3 allitersU3
def con50 : List AV → List Ob → Option TellsP
  | [.int .i64 a, .int .i64 b], [] => some ⟨[], !(addO a b).isSome, over, .int .i64 ((addO a b).getD 0), [], []⟩
  | _, _ => none
theorem f50_run (R : AV → List Ob → Prop) (RP : Value → List Ob → Prop) (a b : Int) : fnP tab eU3 Try.f50 (bodyOf Try.f50) [.int .i64 a, .int .i64 b] [] R RP = (bif !(addO a b).isSome then RP (Value.iface 74 (Value.agg #[])) [] else R (AV.int IntKind.i64 ((addO a b).getD 0)) []) := by kernel_rfl
theorem ok50 : ConOk3 Try.prog (50, con50) := by
  intro args obs t h hp
  simp only [con50] at h
  split at h
  · rename_i a b
    cases h
    refine fn_okP envU3 tab_ok mixed Try.func50 (by kernel_rfl) (by kernel_rfl) ?_
    rw [f50_run]
    dsimp only
    cases h : addO a b with
    | none => exact ⟨rfl, rfl, rfl⟩
    | some v => exact ⟨rfl, rfl, rfl⟩
  · cases h
def con52 : List AV → List Ob → Option TellsP
  | [.int .i64 a, .int .i64 b], [] => some ⟨[], !(subO a b).isSome, over, .int .i64 ((subO a b).getD 0), [], []⟩
  | _, _ => none
theorem f52_run (R : AV → List Ob → Prop) (RP : Value → List Ob → Prop) (a b : Int) : fnP tab eU3 Try.f52 (bodyOf Try.f52) [.int .i64 a, .int .i64 b] [] R RP = (bif !(subO a b).isSome then RP (Value.iface 74 (Value.agg #[])) [] else R (AV.int IntKind.i64 ((subO a b).getD 0)) []) := by kernel_rfl
theorem ok52 : ConOk3 Try.prog (52, con52) := by
  intro args obs t h hp
  simp only [con52] at h
  split at h
  · rename_i a b
    cases h
    refine fn_okP envU3 tab_ok mixed Try.func52 (by kernel_rfl) (by kernel_rfl) ?_
    rw [f52_run]
    dsimp only
    cases h : subO a b with
    | none => exact ⟨rfl, rfl, rfl⟩
    | some v => exact ⟨rfl, rfl, rfl⟩
  · cases h
def con25 : List AV → Option Tells
  | [] => some ⟨[], AV.bool true, []⟩
  | _ => none
theorem f25_run (R : AV → List Ob → Prop)  : fnA tab eU3 Try.f25 (bodyOf Try.f25) [] R = (R (AV.bool true) []) := by kernel_rfl
theorem ok25 : ConOk Try.prog (25, con25) := by
  intro args t h hp
  simp only [con25] at h
  split at h
  · cases h
    refine fn_ok envU3 tab_ok mixed Try.func25 (by kernel_rfl) (by kernel_rfl) ?_
    rw [f25_run]
    exact ⟨rfl, rfl⟩
  · cases h

end Go.Proofs.Ytpojdmikpodoaaa.W
