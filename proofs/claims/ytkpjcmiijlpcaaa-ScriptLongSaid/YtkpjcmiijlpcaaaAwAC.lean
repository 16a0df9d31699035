/- An abstract program logic over the model: maps with integer keys: the operations are sound. -/
import Derived.Test.YtkpjcmiijlpcaaaAwM
import Derived.Maps.RangeRun
namespace Go.Proofs.Ytkpjcmiijlpcaaa.Aw
open Go

section
variable {P : Program} {T : Tab} {env : Env} {M S0 : Nat → Prop} {w0 : World} {S : Nat → Prop} {β : Nat → Cr} {H : Nat → Ob} {w : World} {o : Oper} {a : Act} {ev : Operand → AV} {nid : Nat} {r : Res}
theorem mIdx_le {α : Type} (key : Int) : ∀ es : List (Int × α), mIdx key es ≤ es.length
  | [] => Nat.le_refl _
  | p :: l => by
    have := mIdx_le key l
    simp only [mIdx, List.length_cons]
    cases key == p.1 <;> simp <;> omega
theorem mPut_yes {α : Type} {key : Int} {x : α} {es : List (Int × α)} (h : mIdx key es < es.length) : mPut key x es = es.set (mIdx key es) (key, x) := by
  unfold mPut; rw [show (mIdx key es).blt es.length = true by simpa using h]; rfl
theorem mPut_no {α : Type} {key : Int} {x : α} {es : List (Int × α)} (h : ¬ mIdx key es < es.length) : mPut key x es = es ++ [(key, x)] := by
  unfold mPut; rw [show (mIdx key es).blt es.length = false by rw [Bool.eq_false_iff]; intro hc; exact h (by simpa using hc)]; rfl
theorem mIns_yes {α : Type} {key : Int} {x : α} {es : List (Int × α)} (h : mIdx key es < es.length) : mIns key x es = es := by
  unfold mIns; rw [show (mIdx key es).blt es.length = true by simpa using h]; rfl
theorem mIns_no {α : Type} {key : Int} {x : α} {es : List (Int × α)} (h : ¬ mIdx key es < es.length) : mIns key x es = es ++ [(key, x)] := by
  unfold mIns; rw [show (mIdx key es).blt es.length = false by rw [Bool.eq_false_iff]; intro hc; exact h (by simpa using hc)]; rfl
theorem mIdx_key {α : Type} {key : Int} : ∀ (es : List (Int × α)) (p : Int × α), es[mIdx key es]? = some p → p.1 = key := by
  intro es
  induction es with
  | nil => intro p h; simp at h
  | cons q es ih =>
    intro p h
    simp only [mIdx] at h
    cases hq : (key == q.1)
    · rw [hq] at h; simp only [cond_false, List.getElem?_cons_succ] at h; exact ih p h
    · rw [hq] at h; simp only [cond_true, List.getElem?_cons_zero, Option.some.injEq] at h; subst h; exact (by simpa using hq : key = q.1).symm
theorem find_of {α : Type} (key : Int) : ∀ (es : List (Int × α)) (l : List MapEntry) (i : Nat), l.length = es.length → (∀ (j : Nat) (p : Int × α), es[j]? = some p → ∃ v b, l[j]? = some (MapEntry.mk (.int .i64 p.1) v b)) →
    Instr.findNow (.int .i64) (.int .i64 key) l i = some ((l[mIdx key es]?).map fun e => (i + mIdx key es, e.val))
  | [], l, i, hl, _ => by
    cases l with
    | nil => rfl
    | cons e l => simp at hl
  | p :: es, l, i, hl, h => by
    cases l with
    | nil => simp at hl
    | cons e l =>
      obtain ⟨v, b, hv⟩ := h 0 p rfl
      simp only [List.getElem?_cons_zero, Option.some.injEq] at hv
      subst hv
      unfold Instr.findNow
      simp only [Instr.sameNow, if_true]
      cases hk : (key == p.1)
      · simp only [mIdx, hk, cond_false, List.getElem?_cons_succ]
        rw [find_of key es l (i + 1) (by simpa using hl) (fun j q hq => by have := h (j + 1) q (by simpa using hq); simpa using this)]
        congr 1
        funext
        rw [show i + 1 + mIdx key es = i + (mIdx key es + 1) by omega]
      · simp [mIdx, hk]
theorem EntR.keys {ag : Bool} {t : Ty} {es : List (Int × t.den)} {l : Array MapEntry} (h : EntR S w ag t es l) : ∀ (j : Nat) (p : Int × t.den), es[j]? = some p → ∃ v b, l.toList[j]? = some (MapEntry.mk (.int .i64 p.1) v b) := by
  intro j p hp
  obtain ⟨cs, _, h2⟩ := h.2 j p hp
  exact ⟨_, _, by rw [Array.getElem?_toList]; exact h2⟩
theorem EntR.ext {S' : Nat → Prop} {w' : World} (hx : ∀ b, S b → S' b ∧ w'.heap[b]? = w.heap[b]?) {ag : Bool} {t : Ty} {es : List (Int × t.den)} {l : Array MapEntry} (h : EntR S w ag t es l) : EntR S' w' ag t es l :=
  ⟨h.1, fun i p hp => by obtain ⟨cs, q1, q2⟩ := h.2 i p hp; exact ⟨cs, DR.mono hx _ _ _ q1, q2⟩⟩
theorem EntR.find {ag : Bool} {t : Ty} {es : List (Int × t.den)} {l : Array MapEntry} (h : EntR S w ag t es l) (key : Int) :
    Instr.findNow (.int .i64) (.int .i64 key) l.toList 0 = some ((l[mIdx key es]?).map fun e => (mIdx key es, e.val)) := by
  rw [find_of key es l.toList 0 (by simpa using h.1) h.keys, Array.getElem?_toList]
  simp
theorem isKey_int (n : Int) : MapKept.IsKey (.int .i64) (.int .i64 n) := rfl
theorem aggV_val {z : Value} : ∀ {b : Bool}, aggV z = b → valV b z.cells.toList = z := by
  intro b h
  subst h
  cases z <;> rfl
theorem aggD_of (hT : TabOk P T) {e : TypeId} {d : TypeDesc} (hd : (T.at_ e).d ≠ .unk) (h : P.underlying e = some d) : (T.at_ e).d.isAgg = aggD d := by
  have hdd := (hT e hd).desc
  unfold DescOk at hdd
  cases hc : (T.at_ e).d <;> rw [hc] at hdd <;> simp only at hdd
  case unk => exact absurd hc hd
  case scalar =>
    obtain ⟨d', h1, h2, _⟩ := hdd
    rw [h] at h1
    cases h1
    cases d <;> first | rfl | simp [notAgg] at h2
  case slice e' => rw [h] at hdd; cases hdd; rfl
  case struct fs => obtain ⟨f, h1, _⟩ := hdd; rw [h] at h1; cases h1; rfl
  case array n e' => obtain ⟨h1, _⟩ := hdd; rw [h] at h1; cases h1; rfl
  case map k e' => obtain ⟨h1, _⟩ := hdd; rw [h] at h1; cases h1; rfl
/-- A map's types. -/
theorem mapTy_of (hT : TabOk P T) {t : TypeId} {ag : Bool} {ty : Ty} {z : List AV} (h : mapTy T t = some (ag, ty, z)) :
    ∃ k e zv, P.underlying t = some (.map k e) ∧ P.underlying k = some (.int .i64) ∧ (∀ w, (zeroValue e).run P w = .ok zv w) ∧ (∀ S w β H, VLs S w β H z zv.cells.toList) ∧ valV ag zv.cells.toList = zv := by
  unfold mapTy at h
  split at h
  · rename_i k e hd
    split at h
    · rename_i hk
      split at h
      · rename_i ty' ht
        split at h
        · rename_i hsz
          simp only [Option.some.injEq, Prod.mk.injEq] at h
          obtain ⟨rfl, rfl, rfl⟩ := h
          have hdd := (hT t (by rw [hd]; simp)).desc
          unfold DescOk at hdd
          rw [hd] at hdd
          obtain ⟨q1, q2, q3⟩ := hdd
          obtain ⟨f, zv, h1, h2, h3, h4⟩ := zero_of hT (known_d hk)
          refine ⟨k, e, zv, q1, q2, fun w => ?_, h4, ?_⟩
          · simp [zeroValue, typeInfo, Sem.run_bind, h1, h2, Result.andThen]
          · apply aggV_val
            unfold zeroShape at q3
            rw [h1] at q3
            cases hu : P.underlying e with
            | none => rw [hu] at q3; cases q3
            | some d =>
              rw [hu] at q3
              simp only [h2] at q3
              rw [aggD_of hT (known_d hk) hu]
              simpa using q3
        · cases h
      · cases h
    · cases h
  · cases h
/-- A value of a map, as it is read. -/
theorem valA_of {ag : Bool} {ty : Ty} {x : ty.den} {cs : List Value} (h : DR S w ty x cs) : VL S w β H (valA ag (enc ty x)) [valV ag cs] := by
  have h1 : VLs S w β H (enc ty x) cs := enc_of ty x cs h
  unfold valA valV
  cases ag with
  | true => exact ⟨cs, rfl, VLs.of_list _ _ h1⟩
  | false =>
    simp only [Bool.false_eq_true, if_false]
    cases hl : enc ty x with
    | nil => exact ⟨_, rfl, trivial⟩
    | cons u l =>
      rw [hl] at h1
      obtain ⟨v, r, e, h2, _⟩ := h1
      subst e
      exact h2
/-- A value that is put into a map. -/
theorem valV_of {y : AV} {u : Value} {l : List AV} {ag : Bool} (hv : VL S w β H y [u]) (hc : y.cells? = some l) (ha : y.agg? = ag) : valV ag u.cells.toList = u := by
  have h1 := (VL.cells_of hc hv).2
  subst ha
  apply aggV_val
  cases y with
  | agg c => obtain ⟨cs, e, _⟩ := hv; cases e; rfl
  | undef => simp [AV.cells?, AV.one] at hc
  | tuple c => simp [AV.cells?, AV.one] at hc
  | nl => simp [AV.cells?, AV.one] at hc
  | cons a b => simp [AV.cells?, AV.one] at hc
  | _ =>
    have h3 := VL.one_of (a := _) rfl hv
    cases u <;> first | rfl | simp [Value.oneCell'] at h3
theorem map_at (c : Rel M S0 w0 S β H w) {x : AV} {u : Value} {k : Nat} {ag : Bool} {ty : Ty} {es : List (Int × ty.den)} (hv : VL S w β H x [u]) (hx : x = .mp k) (hk : H k = .map ag ty es) :
    ∃ g l, (β k).g = some g ∧ u = .map (some g) ∧ w.heap[g]? = some (.map l es.length) ∧ EntR S w ag ty es l := by
  subst hx
  obtain ⟨u', e1, hl⟩ := hv
  simp only [List.cons.injEq, and_true] at e1
  simp only [leaf, hk] at hl
  obtain ⟨g, hg, hu⟩ := hl
  have hob := c.ob k
  rw [hk] at hob
  obtain ⟨g', l, q1, q2, q3⟩ := hob
  rw [hg] at q1
  cases q1
  exact ⟨g, l, hg, e1.trans hu, q2, q3⟩
theorem s_makeMap {t : TypeId} {x : Option Operand} (ho : o.op = .makeMap t x) (c : Cx P T M S0 w0 S β H w a ev nid r) (hs : semOp T env ev H nid o = some r) : Goes P M S0 w0 S β H w o a r := by
  simp only [semOp, ho] at hs
  have key : ∀ (ag : Bool) (ty : Ty) (w' : World) (s : Sem Value), r = ⟨[], .mp nid, [(nid, .map ag ty [])]⟩ → execOp a.eval o = (do pure (Next.value (← s))) → s.run P w = .ok (.map (some w.heap.size)) (w.alloc (.map #[] 0)) → Goes P M S0 w0 S β H w o a r := by
    intro ag ty w' s hr he h1
    subst hr
    have hn := c.fresh (by simp)
    obtain ⟨q1, q2⟩ := Rel.born c.rel nid hn ⟨some w.heap.size, 0, []⟩ (.map ag ty []) (w' := w.alloc (.map #[] 0)) ⟨rfl, rfl, rfl, by rw [size_alloc]; omega, fun b hb _ => heap_alloc_lt w _ b hb⟩ (fun g hg => by rw [has_one] at hg; subst hg; rw [size_alloc]; omega)
      (fun β' H' hx => ⟨w.heap.size, #[], rfl, heap_alloc_at w _, rfl, fun i p hp => by simp at hp⟩)
    intro next Q hnx
    refine wp_val he h1 (hnx _ _ _ _ q1 ?_ q2)
    refine ⟨_, rfl, ?_⟩
    simp only [leaf, updH_one, setC_one]
    exact ⟨_, rfl, rfl⟩
  split at hs
  · rename_i ag ty z hm hx
    cases x with
    | none => cases hs; exact key ag ty w (Instr.makeMap t none) rfl (by unfold execOp; rw [ho]; rfl) rfl
    | some y => simp at hx
  · rename_i ag ty z k n hm hx
    cases x with
    | none => simp at hx
    | some y =>
      simp only [Option.map_some, Option.some.injEq] at hx
      cases hs
      obtain ⟨kt, et, zv, h1, _⟩ := mapTy_of c.hT hm
      have hv := c.hev y
      rw [hx] at hv
      have hv' := VL.int hv
      refine key ag ty w (Instr.makeMap t (some (a.eval y))) rfl (by unfold execOp; rw [ho]; rfl) ?_
      simp [Instr.makeMap, run_underlying h1, hv', asInt, Sem.run_bind, Result.andThen]
      rfl
  · cases hs
theorem EntR.val {ag : Bool} {t : Ty} {es : List (Int × t.den)} {l : Array MapEntry} (h : EntR S w ag t es l) (key : Int) {zx : t.den} {zv : Value} {zc : List Value} (hz : DR S w t zx zc) (hzv : valV ag zc = zv) :
    VL S w β H (valA ag (enc t (mGet key zx es))) [((l[mIdx key es]?).map (·.val)).getD zv] ∧ ∃ cs, DR S w t (mGet key zx es) cs ∧ ((l[mIdx key es]?).map (·.val)).getD zv = valV ag cs := by
  have hx : ∃ cs, DR S w t (mGet key zx es) cs ∧ ((l[mIdx key es]?).map (·.val)).getD zv = valV ag cs := by
    unfold mGet
    cases he : es[mIdx key es]? with
    | none =>
      have : l[mIdx key es]? = none := by
        rw [Array.getElem?_eq_none_iff, h.1]
        exact List.getElem?_eq_none_iff.1 he
      rw [this]
      exact ⟨zc, hz, hzv.symm⟩
    | some p =>
      obtain ⟨cs, q1, q2⟩ := h.2 _ p he
      rw [q2]
      exact ⟨cs, q1, rfl⟩
  refine ⟨?_, hx⟩
  obtain ⟨cs, h1, h2⟩ := hx
  rw [h2]
  exact valA_of h1
theorem s_lookup {t : TypeId} {x i : Operand} (ho : o.op = .lookup t x i false) (c : Cx P T M S0 w0 S β H w a ev nid r) (hs : semOp T env ev H nid o = some r) : Goes P M S0 w0 S β H w o a r := by
  simp only [semOp, ho] at hs
  split at hs
  rotate_left
  · cases hs
  rename_i k hx
  unfold semLookup at hs
  split at hs
  rotate_left
  · cases hs
  rename_i ag ty z key hm hi
  split at hs
  rotate_left
  · cases hs
  rename_i ag' ty' es zx hk hz
  split at hs
  rotate_left
  · cases hs
  rename_i hh
  obtain ⟨rfl, rfl⟩ := hh
  simp only [ok, Option.some.injEq] at hs
  subst hs
  obtain ⟨kt, et, zv, h1, h2, h3, h4, h5⟩ := mapTy_of c.hT hm
  obtain ⟨g, l, hg, hu, q2, q3⟩ := map_at c.rel (c.hev x) hx hk
  have hv := c.hev i
  rw [hi] at hv
  have hv' := VL.int hv
  refine goes_same c rfl (s := Instr.lookup t (a.eval x) (a.eval i) false) (u := ((l[mIdx key es]?).map (·.val)).getD zv) (by unfold execOp; rw [ho]) ?_ (EntR.val q3 key (dec1_of (h4 S w β H) hz) h5).1
  rw [hu, hv']
  simp only [Instr.lookup, Sem.run_bind, run_underlying h1, Result.andThen_ok, MapKept.run_getObj_map q2, Sem.run_pure, MapKept.run_checkKey h2 (isKey_int key) _ 9999, MapKept.run_findKey h2 (q3.find key)]
  cases hl : l[mIdx key es]? with
  | none => simp [h3, Result.andThen]
  | some e => simp [Result.andThen]
theorem EntR.push {ag : Bool} {t : Ty} {es : List (Int × t.den)} {l : Array MapEntry} (h : EntR S w ag t es l) {S' : Nat → Prop} {w' : World} (hx' : ∀ b, S b → S' b ∧ w'.heap[b]? = w.heap[b]?) (key : Int) {x : t.den} {cs : List Value} {v : Value} (hd : DR S' w' t x cs) (hv : valV ag cs = v) :
    EntR S' w' ag t (es ++ [(key, x)]) (l.push { key := .int .i64 key, val := v, born := es.length }) := by
  have hsz := h.1
  refine ⟨by simp [hsz], fun j q hq => ?_⟩
  by_cases hj : j < es.length
  · rw [List.getElem?_append_left hj] at hq
    obtain ⟨cs', r1, r2⟩ := h.2 j q hq
    refine ⟨cs', DR.mono hx' _ _ _ r1, ?_⟩
    rw [Array.getElem?_push, if_neg (by omega)]
    exact r2
  · rw [List.getElem?_append_right (by omega)] at hq
    obtain ⟨rfl⟩ : j = es.length := by
      have := (List.getElem?_eq_some_iff.1 hq).1
      simp at this
      omega
    simp only [Nat.sub_self, List.getElem?_cons_zero, Option.some.injEq] at hq
    subst hq
    refine ⟨_, hd, ?_⟩
    rw [hv, Array.getElem?_push, if_pos hsz.symm]
theorem EntR.set {ag : Bool} {t : Ty} {es : List (Int × t.den)} {l : Array MapEntry} (h : EntR S w ag t es l) {S' : Nat → Prop} {w' : World} (hx' : ∀ b, S b → S' b ∧ w'.heap[b]? = w.heap[b]?) {i : Nat} {p : Int × t.den} (hp : es[i]? = some p) {x : t.den} {cs : List Value} {v : Value} (hd : DR S' w' t x cs) (hv : valV ag cs = v) (f : MapEntry → MapEntry) (hf : ∀ u, f ⟨.int .i64 p.1, u, i⟩ = ⟨.int .i64 p.1, v, i⟩) :
    EntR S' w' ag t (es.set i (p.1, x)) (l.modify i f) := by
  have hlt := (List.getElem?_eq_some_iff.1 hp).1
  obtain ⟨cs0, p1, p2⟩ := h.2 i p hp
  refine ⟨by simp [h.1], fun j q hq => ?_⟩
  by_cases hj : j = i
  · subst hj
    rw [List.getElem?_set_self hlt] at hq
    cases hq
    refine ⟨_, hd, ?_⟩
    rw [hv, Array.getElem?_modify, if_pos rfl, p2, Option.map_some, hf]
  · rw [List.getElem?_set_ne (Ne.symm hj)] at hq
    obtain ⟨cs', r1, r2⟩ := h.2 j q hq
    refine ⟨cs', DR.mono hx' _ _ _ r1, ?_⟩
    rw [Array.getElem?_modify, if_neg (Ne.symm hj)]
    exact r2
theorem keyStays {k1 : Int} : (Instr.keyThatStays (.int .i64 k1) (.int .i64 k1)).run P w = .ok (.int .i64 k1) w := by
  simp only [Instr.keyThatStays, Instr.sameBits, beq_self_eq_true, Bool.and_self, if_true, Sem.run_pure]
theorem s_mapUpdate {t : TypeId} {x i y : Operand} (ho : o.op = .mapUpdate t x i y) (c : Cx P T M S0 w0 S β H w a ev nid r) (hs : semOp T env ev H nid o = some r) : Goes P M S0 w0 S β H w o a r := by
  simp only [semOp, ho] at hs
  split at hs
  rotate_left
  · cases hs
  rename_i k hx
  unfold semMapUpdate at hs
  split at hs
  rotate_left
  · cases hs
  rename_i ag ty z key lc hm hi hc
  split at hs
  rotate_left
  · cases hs
  rename_i ag' ty' es yx hk hy
  split at hs
  rotate_left
  · cases hs
  rename_i hh
  obtain ⟨rfl, rfl, hag⟩ := hh
  simp only [Option.some.injEq] at hs
  subst hs
  obtain ⟨kt, et, zv, h1, h2, h3, h4, h5⟩ := mapTy_of c.hT hm
  obtain ⟨g, l, hg, hu, q2, q3⟩ := map_at c.rel (c.hev x) hx hk
  have hv := c.hev i
  rw [hi] at hv
  have hv' := VL.int hv
  have hyv := c.hev y
  have hyd := dec1_of (VL.cells_of hc hyv).1 hy
  have hyw := valV_of hyv hc hag
  have hl : (H k).live = true := by rw [hk]; rfl
  have hsz : l.size = es.length := q3.1
  intro next Q hn
  have hrun : ∃ l' n', (Instr.mapUpdate t (a.eval x) (a.eval i) (a.eval y)).run P w = .ok () { w with heap := w.heap.setIfInBounds g (.map l' n') } ∧ n' = (mPut key yx es).length ∧ ∀ S' w', (∀ b, S b → S' b ∧ w'.heap[b]? = w.heap[b]?) → EntR S' w' ag' ty' (mPut key yx es) l' := by
    by_cases hlt : mIdx key es < es.length
    · obtain ⟨p, hp⟩ : ∃ p, es[mIdx key es]? = some p := ⟨_, List.getElem?_eq_getElem hlt⟩
      obtain ⟨cs, p1, p2⟩ := q3.2 _ p hp
      have hkey : p.1 = key := mIdx_key es p hp
      refine ⟨l.modify (mIdx key es) fun e => { e with key := .int .i64 key, val := a.eval y }, es.length, ?_, by rw [mPut_yes hlt, List.length_set], fun S' w' hx' => ?_⟩
      · rw [hu, hv']
        simp only [Instr.mapUpdate, Sem.run_bind, run_underlying h1, Result.andThen_ok, MapKept.run_getObj_map q2, MapKept.run_checkKey h2 (isKey_int key) _ 9999, MapKept.run_findKey h2 (q3.find key), p2, Option.map_some, Option.getD_some, hkey, keyStays, MapKept.run_setObj_map _ q2]
      · rw [mPut_yes hlt, show (key, yx) = (p.1, yx) by rw [hkey]]
        exact q3.set hx' hp (DR.mono hx' _ _ _ hyd) hyw _ fun u => by rw [hkey]
    · have hnone : l[mIdx key es]? = none := by rw [Array.getElem?_eq_none_iff, hsz]; omega
      refine ⟨l.push { key := .int .i64 key, val := a.eval y, born := es.length }, es.length + 1, ?_, by rw [mPut_no hlt, List.length_append]; rfl, fun S' w' hx' => ?_⟩
      · rw [hu, hv']
        simp only [Instr.mapUpdate, Sem.run_bind, run_underlying h1, Result.andThen_ok, MapKept.run_getObj_map q2, MapKept.run_checkKey h2 (isKey_int key) _ 9999, MapKept.run_findKey h2 (q3.find key), hnone, Option.map_none, MapKept.run_setObj_map _ q2]
      · rw [mPut_no hlt]
        exact q3.push hx' key (DR.mono hx' _ _ _ hyd) hyw
  obtain ⟨l', n', hr1, hr2, hr3⟩ := hrun
  obtain ⟨z1, z2⟩ := MapKept.heap_set (o' := .map l' n') q2
  obtain ⟨e1, e2⟩ := Rel.write c.rel k g hl hg (.map ag' ty' (mPut key yx es)) (by rw [hk]; exact .inr ⟨rfl, _, rfl⟩) (w' := { w with heap := w.heap.setIfInBounds g (.map l' n') }) rfl rfl rfl (by simp) (fun b hb => z2 b hb)
    (fun hx' => ⟨g, l', hg, by rw [← hr2]; exact z1, hr3 _ _ hx'.hS⟩)
  refine wp_unit (s := Instr.mapUpdate t (a.eval x) (a.eval i) (a.eval y)) (by unfold execOp; rw [ho]) hr1 (hn _ _ _ _ e1 ⟨_, rfl, trivial⟩ e2)
theorem s_mapEntry {t : TypeId} {x i : Operand} (ho : o.op = .mapEntry t x i) (c : Cx P T M S0 w0 S β H w a ev nid r) (hs : semOp T env ev H nid o = some r) : Goes P M S0 w0 S β H w o a r := by
  simp only [semOp, ho] at hs
  split at hs
  rotate_left
  · cases hs
  rename_i k hx
  unfold semMapEntry at hs
  split at hs
  rotate_left
  · cases hs
  rename_i ag ty z key hm hi
  split at hs
  rotate_left
  · cases hs
  rename_i ag' ty' es zx hk hz
  split at hs
  rotate_left
  · cases hs
  rename_i hh
  obtain ⟨rfl, rfl⟩ := hh
  simp only [Option.some.injEq] at hs
  subst hs
  obtain ⟨kt, et, zv, h1, h2, h3, h4, h5⟩ := mapTy_of c.hT hm
  obtain ⟨g, l, hg, hu, q2, q3⟩ := map_at c.rel (c.hev x) hx hk
  have hv := c.hev i
  rw [hi] at hv
  have hv' := VL.int hv
  have hl : (H k).live = true := by rw [hk]; rfl
  have hsz : l.size = es.length := q3.1
  have hzd := dec1_of (h4 S w β H) hz
  intro next Q hn
  have hrun : ∃ l' n', (Instr.mapEntry t (a.eval x) (a.eval i)).run P w = .ok (.tuple #[((l[mIdx key es]?).map (·.val)).getD zv, .int .i64 (mIdx key es)]) { w with heap := w.heap.setIfInBounds g (.map l' n') } ∧ n' = (mIns key zx es).length ∧ ∀ S' w', (∀ b, S b → S' b ∧ w'.heap[b]? = w.heap[b]?) → EntR S' w' ag' ty' (mIns key zx es) l' := by
    by_cases hlt : mIdx key es < es.length
    · obtain ⟨p, hp⟩ : ∃ p, es[mIdx key es]? = some p := ⟨_, List.getElem?_eq_getElem hlt⟩
      obtain ⟨cs, p1, p2⟩ := q3.2 _ p hp
      have hkey : p.1 = key := mIdx_key es p hp
      refine ⟨l.modify (mIdx key es) fun e => { e with key := .int .i64 key }, es.length, ?_, by rw [mIns_yes hlt], fun S' w' hx' => ?_⟩
      · rw [hu, hv']
        simp only [Instr.mapEntry, Sem.run_bind, run_underlying h1, Result.andThen_ok, MapKept.run_getObj_map q2, MapKept.run_checkKey h2 (isKey_int key) _ 9999, MapKept.run_findKey h2 (q3.find key), p2, Option.map_some, Option.getD_some, hkey, keyStays, MapKept.run_setObj_map _ q2, Sem.run_pure, goInt]
      · rw [mIns_yes hlt]
        have := q3.set hx' hp (x := p.2) (DR.mono hx' _ _ _ p1) rfl (fun e => { e with key := .int .i64 key }) 
        have hs2 : es.set (mIdx key es) (p.1, p.2) = es := by
          rw [List.getElem?_eq_some_iff] at hp
          obtain ⟨hp1, hp2⟩ := hp
          have := List.set_getElem_self (as := es) hp1
          rw [hp2] at this
          exact this
        rw [hs2] at this
        refine ⟨by simp [hsz], fun j q hq => ?_⟩
        by_cases hj : j = mIdx key es
        · subst hj
          rw [hp] at hq
          cases hq
          refine ⟨cs, DR.mono hx' _ _ _ p1, ?_⟩
          rw [Array.getElem?_modify, if_pos rfl, p2, Option.map_some, hkey]
        · obtain ⟨cs', r1, r2⟩ := q3.2 j q hq
          refine ⟨cs', DR.mono hx' _ _ _ r1, ?_⟩
          rw [Array.getElem?_modify, if_neg (Ne.symm hj)]
          exact r2
    · have hnone : l[mIdx key es]? = none := by rw [Array.getElem?_eq_none_iff, hsz]; omega
      refine ⟨l.push { key := .int .i64 key, val := zv, born := es.length }, es.length + 1, ?_, by rw [mIns_no hlt, List.length_append]; rfl, fun S' w' hx' => ?_⟩
      · have he : mIdx key es = es.length := by have := mIdx_le key es; omega
        have hnone' : l[es.length]? = none := by rw [← he]; exact hnone
        rw [hu, hv']
        simp only [Instr.mapEntry, Sem.run_bind, run_underlying h1, Result.andThen_ok, MapKept.run_getObj_map q2, MapKept.run_checkKey h2 (isKey_int key) _ 9999, MapKept.run_findKey h2 (q3.find key), he, hnone', Option.map_none, MapKept.run_setObj_map _ q2, h3, Sem.run_pure, Option.getD_none, goInt]
      · rw [mIns_no hlt]
        exact q3.push hx' key (DR.mono hx' _ _ _ hzd) h5
  obtain ⟨l', n', hr1, hr2, hr3⟩ := hrun
  obtain ⟨z1, z2⟩ := MapKept.heap_set (o' := .map l' n') q2
  obtain ⟨e1, e2⟩ := Rel.write c.rel k g hl hg (.map ag' ty' (mIns key zx es)) (by rw [hk]; exact .inr ⟨rfl, _, rfl⟩) (w' := { w with heap := w.heap.setIfInBounds g (.map l' n') }) rfl rfl rfl (by simp) (fun b hb => z2 b hb)
    (fun hx' => ⟨g, l', hg, by rw [← hr2]; exact z1, hr3 _ _ hx'.hS⟩)
  obtain ⟨v1, cs1, v2, v3⟩ := EntR.val (β := β) (H := H) q3 key hzd h5
  refine wp_val (s := Instr.mapEntry t (a.eval x) (a.eval i)) (by unfold execOp; rw [ho]) hr1 (hn _ _ _ _ e1 ⟨_, rfl, ?_⟩ e2)
  refine ⟨_, _, rfl, VL.ext e2 _ _ v1, _, _, rfl, ⟨_, rfl, rfl⟩, rfl⟩
theorem EntR.findIdx {ag : Bool} {t : Ty} {es : List (Int × t.den)} {l : Array MapEntry} (h : EntR S w ag t es l) {j : Nat} (hj : j < es.length) : l.findIdx? (fun e => (e.born : Int) == (j : Int)) = some j := by
  have hsz := h.1
  rw [Array.findIdx?_eq_some_iff_getElem]
  have hb : ∀ (i : Nat) (hi : i < l.size), l[i].born = i := by
    intro i hi
    obtain ⟨cs, _, h2⟩ := h.2 i es[i] (List.getElem?_eq_getElem (by omega))
    rw [Array.getElem?_eq_getElem hi] at h2
    exact congrArg MapEntry.born (Option.some.inj h2)
  refine ⟨by omega, by rw [hb j (by omega)]; simp, fun i hi => ?_⟩
  rw [hb i (by omega)]
  simp
  omega
theorem s_entryStore {t : TypeId} {x i y : Operand} (ho : o.op = .entryStore t x i y) (c : Cx P T M S0 w0 S β H w a ev nid r) (hs : semOp T env ev H nid o = some r) : Goes P M S0 w0 S β H w o a r := by
  simp only [semOp, ho] at hs
  split at hs
  rotate_left
  · cases hs
  rename_i k hx
  unfold semEntryStore at hs
  split at hs
  rotate_left
  · cases hs
  rename_i ag ty z kk jj lc hm hi hc
  split at hs
  rotate_left
  · cases hs
  rename_i ag' ty' es yx hk hy
  split at hs
  rotate_left
  · cases hs
  rename_i hh
  obtain ⟨rfl, rfl, hag⟩ := hh
  simp only [Option.some.injEq] at hs
  subst hs
  have g1 := c.hgs (0 ≤ jj) (by simp)
  have g2 := c.hgs (jj < (es.length : Int)) (by simp)
  obtain ⟨j, rfl⟩ : ∃ j : Nat, jj = j := ⟨jj.toNat, by omega⟩
  have hj : j < es.length := by omega
  obtain ⟨g, l, hg, hu, q2, q3⟩ := map_at c.rel (c.hev x) hx hk
  have hv := c.hev i
  rw [hi] at hv
  have hv' := VL.int hv
  have hyv := c.hev y
  have hyd := dec1_of (VL.cells_of hc hyv).1 hy
  have hyw := valV_of hyv hc hag
  have hl : (H k).live = true := by rw [hk]; rfl
  have hsz : l.size = es.length := q3.1
  intro next Q hn
  obtain ⟨p, hp⟩ : ∃ p, es[j]? = some p := ⟨_, List.getElem?_eq_getElem hj⟩
  have hr1 : (Instr.entryStore t (a.eval x) (a.eval i) (a.eval y)).run P w = .ok () { w with heap := w.heap.setIfInBounds g (.map (l.modify j fun e => { e with val := a.eval y }) es.length) } := by
    rw [hu, hv']
    simp only [Instr.entryStore, Sem.run_bind, Result.andThen_ok, MapKept.run_getObj_map q2, asInt, asIntOf, Sem.run_pure, q3.findIdx hj, MapKept.run_setObj_map _ q2]
  have hmod : es.modify (j : Int).toNat (fun p => (p.1, yx)) = es.set j (p.1, yx) := by
    rw [Int.toNat_natCast]
    apply List.ext_getElem?
    intro q
    rw [List.getElem?_modify]
    by_cases hq : j = q
    · subst hq; rw [List.getElem?_set_self hj, hp]; simp
    · rw [List.getElem?_set_ne hq]; simp [hq]
  obtain ⟨z1, z2⟩ := MapKept.heap_set (o' := .map (l.modify j fun e => { e with val := a.eval y }) es.length) q2
  obtain ⟨e1, e2⟩ := Rel.write c.rel k g hl hg (.map ag' ty' (es.modify (j : Int).toNat fun p => (p.1, yx))) (by rw [hk]; exact .inr ⟨rfl, _, rfl⟩) (w' := { w with heap := w.heap.setIfInBounds g (.map (l.modify j fun e => { e with val := a.eval y }) es.length) }) rfl rfl rfl (by simp) (fun b hb => z2 b hb)
    (fun hx' => ⟨g, _, hg, by rw [List.length_modify]; exact z1, by rw [hmod]; exact q3.set hx'.hS hp (DR.mono hx'.hS _ _ _ hyd) hyw _ fun u => rfl⟩)
  refine wp_unit (s := Instr.entryStore t (a.eval x) (a.eval i) (a.eval y)) (by unfold execOp; rw [ho]) hr1 (hn _ _ _ _ e1 ⟨_, rfl, trivial⟩ e2)
theorem s_range {t : TypeId} {x : Operand} (ho : o.op = .range t x) (c : Cx P T M S0 w0 S β H w a ev nid r) (hs : semOp T env ev H nid o = some r) : Goes P M S0 w0 S β H w o a r := by
  simp only [semOp, ho] at hs
  split at hs
  rotate_left
  · cases hs
  rename_i k hx
  unfold semRange at hs
  split at hs
  rotate_left
  · cases hs
  rename_i mt ag ty es hm hk
  simp only [Option.some.injEq] at hs
  subst hs
  obtain ⟨ag0, ty0, z0⟩ := mt
  obtain ⟨kt, et, zv, h1, _⟩ := mapTy_of c.hT hm
  obtain ⟨g, l, hg, hu, q2, q3⟩ := map_at c.rel (c.hev x) hx hk
  have hn := c.fresh (by simp)
  have hne : k ≠ nid := by intro e; rw [e, hn] at hk; cases hk
  obtain ⟨e1, e2⟩ := Rel.born c.rel nid hn ⟨some w.heap.size, 0, []⟩ (.mit k es.length [] 0) (w' := w.alloc (.mapIter (some g) es.length #[] es.length)) ⟨rfl, rfl, rfl, by rw [size_alloc]; omega, fun b hb _ => heap_alloc_lt w _ b hb⟩ (fun g hg => by rw [has_one] at hg; subst hg; rw [size_alloc]; omega)
      (fun β' H' hx => ⟨w.heap.size, g, es.length, rfl, heap_alloc_at w _, rfl, by
        have h2 := hx.hO k
        rw [hk] at h2
        rcases h2 with h3 | ⟨h3, es', h4⟩
        · rw [h3]; trivial
        · rw [h4]; exact h3.trans hg⟩)
  intro next Q hnx
  refine wp_val (s := Instr.range t (a.eval x)) (by unfold execOp; rw [ho]) (by rw [hu]; exact run_range_map w t kt et g l es.length h1 q2) (hnx _ _ _ _ e1 ?_ e2)
  refine ⟨_, rfl, ?_⟩
  simp only [leaf, updH_one, setC_one]
  exact ⟨_, rfl, rfl⟩
theorem iter_at (c : Rel M S0 w0 S β H w) {x : AV} {u : Value} {k m n cur : Nat} {seen : List Nat} {ag : Bool} {ty : Ty} {es : List (Int × ty.den)} (hv : VL S w β H x [u]) (hx : x = .itr k) (hk : H k = .mit m n seen cur) (hm : H m = .map ag ty es) :
    ∃ g gm l, (β k).g = some g ∧ u = .pointer (some ⟨g, 0, none⟩) ∧ w.heap[g]? = some (.mapIter (some gm) n seen.toArray n) ∧ (β m).g = some gm ∧ w.heap[gm]? = some (.map l es.length) ∧ EntR S w ag ty es l := by
  subst hx
  obtain ⟨u', e1, hl⟩ := hv
  simp only [List.cons.injEq, and_true] at e1
  simp only [leaf, hk] at hl
  obtain ⟨g, hg, hu⟩ := hl
  have hob := c.ob k
  rw [hk] at hob
  obtain ⟨g', gm, st, q1, q2, rfl, q3⟩ := hob
  rw [hg] at q1
  cases q1
  rw [hm] at q3
  simp only at q3
  have hob2 := c.ob m
  rw [hm] at hob2
  obtain ⟨g', l, p1, p2, p3⟩ := hob2
  rw [q3] at p1
  cases p1
  exact ⟨g, gm, l, hg, e1.trans hu, q2, q3, p2, p3⟩
theorem EntR.born {ag : Bool} {t : Ty} {es : List (Int × t.den)} {l : Array MapEntry} (h : EntR S w ag t es l) {e : MapEntry} (he : e ∈ l.toList) : ∃ p cs, e.born < es.length ∧ es[e.born]? = some p ∧ DR S w t p.2 cs ∧ e = ⟨.int .i64 p.1, valV ag cs, e.born⟩ ∧ l[e.born]? = some e := by
  obtain ⟨j, hj, e1⟩ := List.mem_iff_getElem.1 he
  have hsz := h.1
  have hlt : j < es.length := by simpa [hsz] using hj
  obtain ⟨cs, h1, h2⟩ := h.2 j es[j] (List.getElem?_eq_getElem hlt)
  have h3 : l[j]? = some e := by rw [← e1, ← Array.getElem?_toList]; exact List.getElem?_eq_getElem hj
  rw [h3] at h2
  cases h2
  exact ⟨es[j], cs, hlt, List.getElem?_eq_getElem hlt, h1, rfl, h3⟩
theorem s_entry {x : Operand} (ho : o.op = .entry x) (c : Cx P T M S0 w0 S β H w a ev nid r) (hs : semOp T env ev H nid o = some r) : Goes P M S0 w0 S β H w o a r := by
  simp only [semOp, ho] at hs
  split at hs
  rotate_left
  · cases hs
  rename_i k hx
  split at hs
  rotate_left
  · cases hs
  rename_i m n seen cur hk
  split at hs
  rotate_left
  · cases hs
  rename_i ag ty es hm
  simp only [Option.some.injEq] at hs
  subst hs
  have g1 := c.hgs (seen.getLast? = some cur) (by simp)
  have g2 := c.hgs (n = es.length) (by simp)
  have g3 := c.hgs (cur < es.length) (by simp)
  subst g2
  obtain ⟨g, gm, l, hg, hu, q1, q2, q3, q4⟩ := iter_at c.rel (c.hev x) hx hk hm
  obtain ⟨cs, r1, r2⟩ := q4.2 cur es[cur] (List.getElem?_eq_getElem g3)
  have hfind : l.find? (fun e => e.born == cur) = some ⟨.int .i64 es[cur].1, valV ag cs, cur⟩ := by
    rw [Array.find?_eq_some_iff_getElem]
    have hsz := q4.1
    refine ⟨by simp, cur, by omega, ?_, fun j hj => ?_⟩
    · rw [Array.getElem?_eq_getElem (by omega)] at r2
      exact Option.some.inj r2
    · obtain ⟨cs', _, r2'⟩ := q4.2 j es[j] (List.getElem?_eq_getElem (by omega))
      rw [Array.getElem?_eq_getElem (by omega)] at r2'
      rw [Option.some.inj r2']
      simp
      omega
  have hback : seen.toArray.back? = some cur := by rw [← g1]; simp
  have hd : es.getD cur (0, ty.zero) = es[cur] := by rw [List.getD, List.getElem?_eq_getElem g3]; rfl
  refine goes_same c rfl (s := Instr.entry (a.eval x)) (u := .tuple #[.int .i64 es[cur].1, valV ag cs]) (by unfold execOp; rw [ho]) ?_ ?_
  · rw [hu]
    simp only [Instr.entry, getObj, Sem.run_bind, Sem.run, q1, q3, Result.andThen, hback, bne_self_eq_false, Bool.false_eq_true, if_false, hfind]
    rfl
  · rw [hd]
    exact ⟨_, rfl, _, _, rfl, ⟨_, rfl, rfl⟩, _, _, rfl, valA_of r1, rfl⟩
/-- One step of an iterator: whichever entry is left, or none. -/
theorem next_of (c : Rel M S0 w0 S β H w) {x : AV} {u : Value} {k m n cur : Nat} {seen : List Nat} {ag : Bool} {ty : Ty} {es : List (Int × ty.den)} (hv : VL S w β H x [u]) (hx : x = .itr k) (hk : H k = .mit m n seen cur) (hm : H m = .map ag ty es) (hn : n = es.length) (ot : TypeId) :
    ((∀ j, j < es.length → j ∈ seen) ∧ (Instr.next u false ot).run P w = .ok (.tuple #[.bool false]) w) ∨
    ∃ j, j < es.length ∧ j ∉ seen ∧ ∃ (w' : World) (u1 u2 : Value), (Instr.next u false ot).run P w = .ok (.tuple #[.bool true, u1, u2]) w' ∧ Rel M S0 w0 S β (updH H [(k, .mit m n (seen ++ [j]) j)]) w' ∧ Ext S w β H S w' β (updH H [(k, .mit m n (seen ++ [j]) j)]) := by
  subst hn
  obtain ⟨g, gm, l, hg, hu, q1, q2, q3, q4⟩ := iter_at c hv hx hk hm
  subst hu
  have hl : (H k).live = true := by rw [hk]; rfl
  rcases run_next_at (P := P) w ot g gm es.length es.length seen.toArray l es.length q1 q3 (fun e he => by obtain ⟨_, _, h, _⟩ := q4.born he; exact h) (Nat.le_refl _) with ⟨h1, h2⟩ | ⟨e, he, w1, hw, hrun⟩
  · refine .inl ⟨fun j hj => ?_, h2⟩
    by_cases hs : j ∈ seen
    · exact hs
    · exfalso
      obtain ⟨cs, _, r2⟩ := q4.2 j es[j] (List.getElem?_eq_getElem hj)
      have : l.filter (fun e => !seen.toArray.contains e.born) = #[] := Array.eq_empty_of_size_eq_zero h1
      rw [Array.filter_eq_empty_iff] at this
      have h3 := this _ (Array.mem_of_getElem? r2)
      simp [hs] at h3
  · refine .inr ⟨e.born, ?_⟩
    have he' : e ∈ l.toList ∧ e.born ∉ seen := by
      unfold leftOf at he
      simp at he
      exact ⟨by simpa using he.1, he.2⟩
    obtain ⟨p, cs, h1, h2, h3, h4, h5⟩ := q4.born he'.1
    refine ⟨h1, he'.2, _, e.key, e.val, hrun, ?_⟩
    have hz : (w.heap.setIfInBounds g (.mapIter (some gm) es.length (seen.toArray.push e.born) es.length)) = (ChangeMaps.setBlock w g (.mapIter (some gm) es.length (seen.toArray.push e.born) es.length)).heap := rfl
    obtain ⟨z1, z2⟩ := MapKept.heap_set (o' := .mapIter (some gm) es.length (seen.toArray.push e.born) es.length) q1
    have hw1 : w1.heap = w.heap ∧ w1.os = w.os ∧ w1.tape = w.tape ∧ w1.output = w.output := by rcases hw with rfl | rfl <;> exact ⟨rfl, rfl, rfl, rfl⟩
    have hheap : (ChangeMaps.setBlock w1 g (.mapIter (some gm) es.length (seen.toArray.push e.born) es.length)).heap = w.heap.setIfInBounds g (.mapIter (some gm) es.length (seen.toArray.push e.born) es.length) := by
      show w1.heap.setIfInBounds _ _ = _
      rw [hw1.1]
    have hd : w.drawn ≤ (ChangeMaps.setBlock w1 g (.mapIter (some gm) es.length (seen.toArray.push e.born) es.length)).drawn := run_drawn _ _ _ _ _ hrun
    refine Rel.write c k g hl hg (.mit m es.length (seen ++ [e.born]) e.born) (by rw [hk]; exact .inr ⟨rfl, _, _, _, _, rfl⟩) hw1.2.1 hw1.2.2.1 hw1.2.2.2 (by rw [hheap]; simp) (fun b hb => by rw [hheap]; exact z2 b hb) fun hx' => ?_
    have hkm : m ≠ k := by intro e; rw [e, hk] at hm; cases hm
    refine ⟨g, gm, es.length, hg, by rw [hheap]; simpa using z1, rfl, ?_⟩
    rw [updH_other _ _ _ _ hkm, hm]
    exact q2
end
end Go.Proofs.Ytkpjcmiijlpcaaa.Aw
