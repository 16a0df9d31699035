/- An abstract program logic over the model, twenty-fifth part: from a law's contract to its row. -/
import Derived.Test.YtkpjcmiijlpcaaaAwX
import Derived.WalkKit
import Derived.ProofKit
import Derived.OpenShut
import Derived.ShutString
import Derived.ChangeOld
import Derived.Below
import Derived.Carry
import Derived.SizedLaws
namespace Go.Proofs.Ytkpjcmiijlpcaaa.Aw
open Go Go.ChangeShapes Go.WideShapes Go.ChangeAt Go.RowKit

/-- A parameter: whether its value is made of cells, and the code of its data. -/
abbrev Par := Bool × Ty
def argA (p : Par) (x : p.2.den) : AV := bif p.1 then .agg (AV.ofList (enc p.2 x)) else (enc p.2 x).headD .undef
@[reducible] def ArgsDen : List Par → Type
  | [] => Unit
  | p :: l => p.2.den × ArgsDen l
def argsA : (l : List Par) → ArgsDen l → List AV
  | [], _ => []
  | p :: l, x => argA p x.1 :: argsA l x.2
def OkArgs : (l : List Par) → ArgsDen l → Prop
  | [], _ => True
  | p :: l, x => OkD p.2 x.1 ∧ OkArgs l x.2
/-- What a list takes of memory. -/
def RoomD (P : Program) (u : TypeId) : (t : Ty) → t.den → Prop
  | .list e _, xs => P.underlying u = some (.slice e) → xs.length * P.bytesOf e ≤ reachBytes
  | _, _ => True
def RoomArgs (P : Program) : List TypeId → (l : List Par) → ArgsDen l → Prop
  | u :: us, p :: l, x => RoomD P u p.2 x.1 ∧ RoomArgs P us l x.2
  | _, _, _ => True
def parOk (P : Program) (t : TypeId) (p : Par) : Bool := shapeOk P 20 t p.2 && (match P.underlying t with
  | some (.struct _) => p.1
  | some (.array _ _) => p.1
  | _ => !p.1) && P.readableRec t && decide (t < P.types.size)
def parsOk (P : Program) : List TypeId → List Par → Bool
  | [], [] => true
  | t :: ts, p :: l => parOk P t p && parsOk P ts l
  | _, _ => false
section
variable {Hh : Type} {enc' : TypeId × Value → Hh} {P : Program} {W : World} {base : Nat}
theorem room_of {t : TypeId} {ty : Ty} {x : ty.den} {cs : List Value} (hx : DR (allOf W) W ty x cs) {fuel : Nat} {d : DataW Hh × List MemPlace} (ht : DataW.trod enc' P W 0 (fun _ => true) true fuel t cs = some d)
    (hz : ∀ n ∈ d.1.weights P t, n ≤ reachBytes) : RoomD P t ty x := by
  cases ty with
  | list e ty =>
    intro hu
    obtain ⟨a, m, c, es, rfl, e2, _⟩ := hx
    rcases DataW.trod_slice hu ht with ⟨e1, _⟩ | ⟨a', len, cap, elems, rest, m', _, e1, rfl, _, _, _, hlen, _⟩
    · simp at e1
      have : x.length = 0 := by rw [← e2]; exact e1.2.1
      rw [this]; omega
    · simp at e1
      have := hz _ (by simp only [DataW.weights, hu]; exact List.mem_cons_self ..)
      simp only [List.length_map] at this
      refine Nat.le_trans (Nat.mul_le_mul_right _ ?_) this
      omega
  | _ => trivial
theorem arg_vl {t : TypeId} {p : Par} (hp : parOk P t p = true) {v : Value} {d : DataW Hh} {ps : List MemPlace} (hw : Value.okWide P W .any base t v) (ht : DataW.Trod enc' P W 0 (fun _ => true) true t v d ps) (hz : ∀ n ∈ d.weights P t, n ≤ reachBytes) :
    ∃ x : p.2.den, VL (allOf W) W cr0 ob0 (argA p x) [v] ∧ OkD p.2 x ∧ RoomD P t p.2 x := by
  obtain ⟨b, ty⟩ := p
  simp only [parOk, Bool.and_eq_true] at hp
  obtain ⟨⟨⟨h1, h2⟩, _⟩, _⟩ := hp
  obtain ⟨fuel, hf⟩ := ht
  obtain ⟨x, g1, g2⟩ := trod_dr 20 t ty h1 fuel _ _ hf
  refine ⟨x, ?_, g2, room_of g1 hf hz⟩
  have hvl := enc_of (β := cr0) (H := ob0) ty x _ g1
  have plain : (∀ cs, v ≠ .agg cs) → b = false → VL (allOf W) W cr0 ob0 (argA (b, ty) x) [v] := by
    intro hne hb
    subst hb
    have hc : v.cells = #[v] := by
      cases v <;> first
        | rfl
        | exact absurd rfl (hne _)
    rw [hc] at hvl
    obtain ⟨a, ha, hv⟩ : ∃ a, enc ty x = [a] ∧ VL (allOf W) W cr0 ob0 a [v] := by
      match he : enc ty x, hvl with
      | [a], h => obtain ⟨u, r, e, k1, k2⟩ := h; cases e; exact ⟨a, rfl, k1⟩
      | a :: a' :: l, h => obtain ⟨u, r, e, k1, u', r', e', _⟩ := h; cases e; cases e'
    show VL _ _ _ _ ((enc ty x).headD .undef) [v]
    rw [ha]
    exact hv
  have aggr : (∃ cs, v = .agg cs) → b = true → VL (allOf W) W cr0 ob0 (argA (b, ty) x) [v] := by
    rintro ⟨cs, rfl⟩ rfl
    exact ⟨cs.toList, by simp, VLs.of_list _ _ hvl⟩
  unfold Value.okWide at hw
  cases hu : P.underlying t with
  | none => unfold shapeOk at h1; simp only [hu] at h1; cases h1
  | some dd =>
    unfold shapeOk at h1
    simp only [hu] at h1 h2 hw
    cases dd <;> simp only at h1 h2 hw <;> try (exact (Bool.false_ne_true h1).elim)
    case struct fs => obtain ⟨cs, e, _⟩ := hw; exact aggr ⟨cs, e⟩ h2
    case array n e => obtain ⟨cs, e, _⟩ := hw; exact aggr ⟨cs, e⟩ h2
    all_goals
      refine plain ?_ (by simpa using h2)
      rintro cs rfl
      simp [Cell.okWide, hu, Cell.ok] at hw
theorem args_vl : ∀ (ts : List TypeId) (l : List Par) (vs : List Value) (ds : List (DataW Hh)) (ps : List MemPlace), parsOk P ts l = true → DataW.TrodAll enc' P W 0 (fun _ => true) true ts vs ds ps →
    (∀ (j : Nat) t v, ts[j]? = some t → vs[j]? = some v → Value.okWide P W .any base t v) → (∀ n ∈ DataW.weightsEach P ts ds, n ≤ reachBytes) → ∃ x : ArgsDen l, VLs (allOf W) W cr0 ob0 (argsA l x) vs ∧ OkArgs l x ∧ RoomArgs P ts l x
  | [], [], vs, ds, ps, _, ht, _, _ => by
    obtain ⟨rfl, _, _⟩ := trodAll_nil ht
    exact ⟨(), rfl, trivial, trivial⟩
  | [], _ :: _, _, _, _, h, _, _, _ => by simp [parsOk] at h
  | _ :: _, [], _, _, _, h, _, _, _ => by simp [parsOk] at h
  | t :: ts, p :: l, vs, ds, ps, h, ht, hw, hz => by
    simp only [parsOk, Bool.and_eq_true] at h
    obtain ⟨v, vs', d, ds', p0, q0, rfl, rfl, rfl, h0, r0⟩ := trodAll_cons ht
    obtain ⟨x, g1, g2, g3⟩ := arg_vl h.1 (hw 0 t v rfl rfl) h0 (fun n hn => hz n (by simp only [DataW.weightsEach, List.mem_append]; exact .inl hn))
    obtain ⟨y, k1, k2, k3⟩ := args_vl ts l vs' ds' q0 h.2 r0 (fun j t' v' h1 h2 => hw (j + 1) t' v' (by simpa using h1) (by simpa using h2)) (fun n hn => hz n (by simp only [DataW.weightsEach, List.mem_append]; exact .inr hn))
    exact ⟨(x, y), ⟨v, vs', rfl, g1, k1⟩, ⟨g2, k2⟩, g3, k3⟩
theorem trodAll_below (hl : laidOutB P = true) {W' : World} (hb : Below W.heap.size W W') : ∀ (ts : List TypeId) (l : List Par) (vs : List Value) (ds : List (DataW Hh)) (ps : List MemPlace), parsOk P ts l = true → DataW.TrodAll enc' P W 0 (fun _ => true) true ts vs ds ps →
    DataW.TrodAll enc' P W' 0 (fun b => decide (b < W.heap.size)) true ts vs ds ps
  | [], [], vs, ds, ps, _, ht => by
    obtain ⟨rfl, rfl, rfl⟩ := trodAll_nil ht
    exact trodAll_mk0
  | [], _ :: _, _, _, _, h, _ => by simp [parsOk] at h
  | _ :: _, [], _, _, _, h, _ => by simp [parsOk] at h
  | t :: ts, p :: l, vs, ds, ps, h, ht => by
    simp only [parsOk, Bool.and_eq_true] at h
    obtain ⟨v, vs', d, ds', p0, q0, rfl, rfl, rfl, h0, r0⟩ := trodAll_cons ht
    have h1 := h.1
    simp only [parOk, Bool.and_eq_true, decide_eq_true_eq] at h1
    have lt0 : ∀ x ∈ p0, x.block < W.heap.size := by obtain ⟨m, hm⟩ := h0; exact DataW.trod_lt m _ _ _ hm
    exact trodAll_cons_mk (Below.trod hl h1.1.2 h1.2 h0 hb lt0) (trodAll_below hl hb ts l vs' ds' q0 h.2 r0)
theorem trodAll_len : ∀ (ts : List TypeId) (vs : List Value) (ds : List (DataW Hh)) (ps : List MemPlace), DataW.TrodAll enc' P W 0 (fun _ => true) true ts vs ds ps → ds.length = ts.length
  | [], vs, ds, ps, ht => by obtain ⟨_, rfl, _⟩ := trodAll_nil ht; rfl
  | t :: ts, vs, ds, ps, ht => by
    obtain ⟨v, vs', d, ds', p0, q0, _, rfl, _, _, r0⟩ := trodAll_cons ht
    simp [trodAll_len ts vs' ds' q0 r0]
end
/-- A LAW THAT ANSWERS true, WHATEVER IT IS GIVEN. -/
theorem row_liftR {C : Checked} {os : Os} {f : FuncId} {fn : Func} {s : ChangeSpec} {conds : List PathCond} {Hh : Type} {enc' : TypeId × Value → Hh}
    (own : ownKnob C.prog.godebug = none) (started : os.Started) (noInit : C.prog.inits.idxOf? f = none) (hfn : C.prog.funcs[f]? = some fn) (hlaid : laidOutB C.prog = true)
    (witness : ∃ (w : World) (tape : Tape) (i : Input), w.os = os ∧ (w.forCall tape i).Shaped C.prog ∧ i.vars = [] ∧ Input.okWide C.prog (w.forCall tape i) .any w.heap.size f i ∧
      s.pre6 enc' C.prog fn conds false (w.forCall tape i).memory i.args ∧ Assume.holds {} C.prog (lone (Frame.enter C.prog f i.args .normal) [] (w.forCall tape i)))
    (l : List Par) (hl : parsOk C.prog fn.params.toList l = true) {tb : TypeId} (hres : fn.resultTypes = #[tb]) (hb : C.prog.underlying tb = some .bool) (hvars : s.vars = [])
    (hs : ∀ ds : List (DataW Hh), ds.length = fn.params.toList.length → s.fn Hh ds = { results := [.lit (.bool true)], args := ds })
    (hc : ∀ x : ArgsDen l, OkArgs l x → RoomArgs C.prog fn.params.toList l x → ACalls C.prog f (argsA l x) (.bool true) []) :
    ReturnsInHanded {} C os f .any (s.pre6 enc' C.prog fn conds false) (s.post enc' C.prog fn false true false false) := by
  refine returnsInHanded_of_change_sized own started noInit hfn witness ?_
  intro W base args ds gs before hval hW _ hz _
  have hW' := hW
  obtain ⟨p, q, hA, hV, rfl, hfz, hnd⟩ := hW
  rw [hvars] at hV
  obtain ⟨rfl, rfl⟩ := trodVars_none hV
  have hz' : ∀ n ∈ DataW.weightsEach C.prog fn.params.toList ds, n ≤ reachBytes := by
    intro n hn
    have := List.all_eq_true.1 hz n (by
      rw [List.append_nil]
      have hv0 : s.plain.varTypes C.prog = [] := by simp only [ChangeSpec.plain, DataSpec.varTypes, hvars]; rfl
      rw [hv0, List.append_nil]
      exact hn)
    simpa using this
  obtain ⟨x, g1, g2, g3⟩ := args_vl (base := base) fn.params.toList l args.toList ds p hl hA (fun j t v h1 h2 => hval j t v (by simpa using h1) (by simpa using h2)) hz'
  have hcall := (hc x g2 g3).run (allOf W) W args.toList (fun b hb => hb) g1
  have e : args.toList.toArray = args := by simp
  rw [e] at hcall
  refine hcall.mono ?_
  rintro _ W' ⟨u, rfl, S', β', hrel, hv⟩
  have hu := VL.bool hv
  subst hu
  have bel : Below W.heap.size W W' := ⟨hrel.fr.os, hrel.fr.tape, hrel.fr.output, hrel.fr.size, fun k hk => hrel.fr.block k hk (fun h => h)⟩
  have hfn' := hs ds (trodAll_len _ _ _ _ hA)
  refine ⟨_, rfl, ds, [], p ++ [], [], p, [], hW', ?_, ?_, ?_, bel.frame _, fun h => by cases h⟩
  · rw [List.append_nil, hfn', hres]
    exact trodAll_mk1 (shut_bool hb _)
  · rw [List.append_nil, hfn']
    exact trodAll_below hlaid bel _ l _ _ _ hl hA
  · rw [List.append_nil, hfn', hvars]
    rfl
theorem row_lift {C : Checked} {os : Os} {f : FuncId} {fn : Func} {s : ChangeSpec} {conds : List PathCond} {Hh : Type} {enc' : TypeId × Value → Hh}
    (own : ownKnob C.prog.godebug = none) (started : os.Started) (noInit : C.prog.inits.idxOf? f = none) (hfn : C.prog.funcs[f]? = some fn) (hlaid : laidOutB C.prog = true)
    (witness : ∃ (w : World) (tape : Tape) (i : Input), w.os = os ∧ (w.forCall tape i).Shaped C.prog ∧ i.vars = [] ∧ Input.okWide C.prog (w.forCall tape i) .any w.heap.size f i ∧
      s.pre6 enc' C.prog fn conds false (w.forCall tape i).memory i.args ∧ Assume.holds {} C.prog (lone (Frame.enter C.prog f i.args .normal) [] (w.forCall tape i)))
    (l : List Par) (hl : parsOk C.prog fn.params.toList l = true) {tb : TypeId} (hres : fn.resultTypes = #[tb]) (hb : C.prog.underlying tb = some .bool) (hvars : s.vars = [])
    (hs : ∀ ds : List (DataW Hh), ds.length = fn.params.toList.length → s.fn Hh ds = { results := [.lit (.bool true)], args := ds })
    (hc : ∀ x : ArgsDen l, OkArgs l x → ACalls C.prog f (argsA l x) (.bool true) []) :
    ReturnsInHanded {} C os f .any (s.pre6 enc' C.prog fn conds false) (s.post enc' C.prog fn false true false false) :=
  row_liftR own started noInit hfn hlaid witness l hl hres hb hvars hs (fun x h _ => hc x h)
end Go.Proofs.Ytkpjcmiijlpcaaa.Aw
