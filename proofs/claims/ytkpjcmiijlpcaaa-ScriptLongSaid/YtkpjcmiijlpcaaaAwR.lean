/- An abstract program logic over the model, eighteenth part: a region whose order is drawn. -/
import Derived.Test.YtkpjcmiijlpcaaaAwQ
namespace Go.Proofs.Ytkpjcmiijlpcaaa.Aw
open Go

def predsOf (ops : Array Oper) (i : Nat) : List Nat := match ops[i]? with
  | some o => (o.after.toList.filter (Region.binds .any)).map (·.on)
  | none => []
/-- Numbers, as the bits of one number. -/
def maskOf : List Nat → Nat
  | [] => 0
  | k :: l => Nat.lor (Nat.shiftLeft 1 k) (maskOf l)
def looked (tab : List (Nat × Nat)) (i : Nat) : Nat := (tab.lookup i).getD 0
def orAll (tab : List (Nat × Nat)) : List Nat → Nat
  | [] => 0
  | p :: l => Nat.lor (looked tab p) (orAll tab l)
/-- Each operation's forerunners. -/
def ancGo (ops : Array Oper) : List Nat → List (Nat × Nat) → List (Nat × Nat)
  | [], tab => tab
  | i :: l, tab => ancGo ops l ((i, Nat.lor (maskOf (predsOf ops i)) (orAll tab (predsOf ops i))) :: tab)
theorem bit_mask : ∀ (l : List Nat) (k : Nat), (maskOf l).testBit k = true ↔ k ∈ l
  | [], k => by simp [maskOf]
  | x :: l, k => by
    have ih := bit_mask l k
    show (Nat.shiftLeft 1 x ||| maskOf l).testBit k = true ↔ _
    rw [Nat.testBit_or, Bool.or_eq_true, ih, List.mem_cons]
    have : (Nat.shiftLeft 1 x).testBit k = true ↔ k = x := by
      show (1 <<< x).testBit k = true ↔ _
      rw [Nat.one_shiftLeft, Nat.testBit_two_pow]
      simp [eq_comm]
    rw [this]
theorem bit_all (tab : List (Nat × Nat)) : ∀ (l : List Nat) (k : Nat), (orAll tab l).testBit k = true → ∃ p ∈ l, (looked tab p).testBit k = true
  | [], k, h => by simp [orAll] at h
  | p :: l, k, h => by
    change (looked tab p ||| orAll tab l).testBit k = true at h
    rw [Nat.testBit_or, Bool.or_eq_true] at h
    rcases h with h | h
    · exact ⟨p, by simp, h⟩
    · obtain ⟨q, hq, h⟩ := bit_all tab l k h
      exact ⟨q, by simp [hq], h⟩
theorem bit_apart {l m : List Nat} (h : Nat.beq (Nat.land (maskOf l) (maskOf m)) 0 = true) : ∀ k ∈ l, k ∉ m := by
  intro k hl hm
  have e : maskOf l &&& maskOf m = 0 := Nat.eq_of_beq_eq_true h
  have : (maskOf l &&& maskOf m).testBit k = true := by
    rw [Nat.testBit_and, (bit_mask l k).2 hl, (bit_mask m k).2 hm]; rfl
  rw [e] at this
  simp at this
def pickGo (ops : Array Oper) : Nat → List Nat → List Nat → List Nat
  | 0, _, d => d.reverse
  | f + 1, todo, d => match todo.find? fun i => (predsOf ops i).all d.contains with
    | some i => pickGo ops f (todo.erase i) (i :: d)
    | none => d.reverse
def orderOf (ops : Array Oper) : List Nat := pickGo ops ops.size (List.range ops.size) []
def befGo (ops : Array Oper) : List Nat → List Nat → Bool
  | [], _ => true
  | i :: l, d => (predsOf ops i).all d.contains && !d.contains i && befGo ops l (i :: d)
def okOrd (ops : Array Oper) (ord : List Nat) : Bool := (List.range ops.size).all ord.contains && befGo ops ord []
def disj (l m : List Nat) : Bool := l.all fun k => !m.contains k
def looksOf (ops : Array Oper) (i : Nat) : List Nat := match ops[i]? with
  | some o => o.looksAt ops
  | none => []
def dstOf (ops : Array Oper) (i : Nat) : List Nat := match ops[i]? with
  | some o => o.dst.toList
  | none => []
/-- What counts as looked at: where nothing is made otherwise that is looked at for its make alone, that does not. -/
def effR (ok : Bool) (x : Rc) : List Nat := bif ok then x.reads.filter fun k => !x.soft.contains k else x.reads
def softOk (tr : List Rc) : Bool := disj (tr.flatMap Rc.soft) (tr.flatMap Rc.hard)
def apartRc (ok : Bool) (ops : Array Oper) (x y : Rc) : Bool :=
  Nat.beq (Nat.land (maskOf (dstOf ops x.i)) (maskOf (looksOf ops y.i))) 0 && Nat.beq (Nat.land (maskOf (dstOf ops x.i)) (maskOf (dstOf ops y.i))) 0 && Nat.beq (Nat.land (maskOf (dstOf ops y.i)) (maskOf (looksOf ops x.i))) 0 &&
    disj x.keys (effR ok y ++ y.keys) && disj y.keys (effR ok x)
def indepAll (ok : Bool) (ops : Array Oper) (tab : List (Nat × Nat)) : List Rc → Bool
  | [] => true
  | y :: l => (l.all fun x => (looked tab y.i).testBit x.i || apartRc ok ops x y) && indepAll ok ops tab l
def regionA (T : Tab) (env : Env) (ops : Array Oper) (draw : Bool) (s : St) (k : St → Prop) (kp : Value → St → Prop) : Prop :=
  bif draw then (bif okOrd ops (orderOf ops) then
    opsA T env ops (orderOf ops) s [] fun s' tr => bif indepAll (softOk tr) ops (ancGo ops (orderOf ops) []) tr then k s' else False else False)
  else opsO T env ops (List.range ops.size) s k kp

/-! ### Operands -/
theorem semOp_congr {T : Tab} {env : Env} {ev ev' : Operand → AV} {H : Nat → Ob} {nid : Nat} (o : Oper) (h : ∀ x ∈ o.op.operands, ev x = ev' x) : semOp T env ev H nid o = semOp T env ev' H nid o ∧ readsOf ev H o = readsOf ev' H o := by
  unfold semOp readsOf
  cases ho : o.op <;> simp only [ho, Op.operands] at h ⊢
  case call c =>
    have hargs : c.args.toList.map ev = c.args.toList.map ev' := List.map_congr_left fun x hx => h x (by simp [Call.operands, Array.mem_toList_iff.1 hx])
    have hreads : (c.args.toList.flatMap fun x => (ev x).refs) = c.args.toList.flatMap fun x => (ev' x).refs := by
      have e : ∀ e : Operand → AV, (c.args.toList.flatMap fun x => (e x).refs) = (c.args.toList.map e).flatMap AV.refs := fun e => by rw [List.flatMap_map]
      rw [e ev, e ev', hargs]
    cases hc : c.callee with
    | value f =>
      have hf : ev f = ev' f := h f (by simp [Call.operands, hc])
      simp only [hargs, hreads, hf]
      exact ⟨trivial, trivial⟩
    | invoke r m => exact ⟨rfl, rfl⟩
    | builtin b => simp only [hargs, hreads]; exact ⟨trivial, trivial⟩
  case build t ps =>
    have e : (ps.toList.map fun p => (p.1, ev p.2)) = ps.toList.map fun p => (p.1, ev' p.2) := List.map_congr_left fun p hp => by rw [h p.2 (by simp; exact ⟨p.1, Array.mem_toList_iff.1 hp⟩)]
    exact ⟨by rw [e], trivial⟩
  case buildSlice t n ps =>
    have e : (ps.toList.map fun p => (p.1, ev p.2)) = ps.toList.map fun p => (p.1, ev' p.2) := List.map_congr_left fun p hp => by rw [h p.2 (by simp; exact ⟨p.1, Array.mem_toList_iff.1 hp⟩)]
    exact ⟨by rw [e], trivial⟩
  case makeFunc f x y =>
    have e1 : x.toList.map ev = x.toList.map ev' := List.map_congr_left fun z hz => h z (by simp [Array.mem_toList_iff.1 hz])
    have e2 : y.toList.map ev = y.toList.map ev' := List.map_congr_left fun z hz => h z (by simp [Array.mem_toList_iff.1 hz])
    exact ⟨by rw [e1, e2], trivial⟩
  case slice t x lo hi mx =>
    cases mx with
    | some m =>
      cases lo with
      | none => cases hi <;> exact ⟨rfl, by simp only [h x (by simp)]⟩
      | some l =>
        cases hi with
        | none => exact ⟨rfl, by simp only [h x (by simp)]⟩
        | some u =>
          simp only [h x (by simp), h l (by simp), h u (by simp), h m (by simp)]
          exact ⟨trivial, trivial⟩
    | none =>
      have e1 : lo.map ev = lo.map ev' := by cases lo with | none => rfl | some z => simp only [Option.map_some, h z (by simp)]
      have e2 : hi.map ev = hi.map ev' := by cases hi with | none => rfl | some z => simp only [Option.map_some, h z (by simp)]
      simp only [e1, e2, h x (by simp)]
      exact ⟨trivial, trivial⟩
  case makeSlice t x y => simp only [h x (by simp), h y (by simp)]; exact ⟨trivial, trivial⟩
  case pick x y z => simp only [h x (by simp), h y (by simp), h z (by simp)]; exact ⟨trivial, trivial⟩
  case store t x y => simp only [h x (by simp), h y (by simp)]; exact ⟨trivial, trivial⟩
  case binOp op t x y t' => simp only [h x (by simp), h y (by simp)]; exact ⟨trivial, trivial⟩
  case indexAddr t x y => simp only [h x (by simp), h y (by simp)]; exact ⟨trivial, trivial⟩
  case index t x y => simp only [h x (by simp), h y (by simp)]; exact ⟨trivial, trivial⟩
  case makeMap t r =>
    have e1 : r.map ev = r.map ev' := by cases r with | none => rfl | some z => simp only [Option.map_some, h z (by simp)]
    simp only [e1]
    exact ⟨trivial, trivial⟩
  case lookup t x i b =>
    cases b with
    | true => exact ⟨rfl, by simp only [h x (by simp)]⟩
    | false => simp only [h x (by simp), h i (by simp)]; exact ⟨trivial, trivial⟩
  case mapUpdate t x y z => simp only [h x (by simp), h y (by simp), h z (by simp)]; exact ⟨trivial, trivial⟩
  case mapEntry t x y => simp only [h x (by simp), h y (by simp)]; exact ⟨trivial, trivial⟩
  case entryStore t x y z => simp only [h x (by simp), h y (by simp), h z (by simp)]; exact ⟨trivial, trivial⟩
  all_goals first
    | exact ⟨trivial, trivial⟩
    | (simp only [h _ (by simp; rfl)]; exact ⟨trivial, trivial⟩)

/-! ### What was done -/
structure RR where
  c : Rc
  o : Oper
  v : AV
  upd : List (Nat × Ob)
  nid : Nat
def slotsF (sl : List AV) (rs : List RR) : List AV := rs.foldl (fun sl r => putSlot sl r.o.dst r.v) sl
def HF (H : Nat → Ob) (rs : List RR) : Nat → Ob := rs.foldl (fun H r => updH H r.upd) H
def StepA (T : Tab) (env : Env) (ops : Array Oper) (sl : List AV) (H : Nat → Ob) (r : RR) : Prop :=
  ops[r.c.i]? = some r.o ∧ r.c.keys = r.upd.map (·.1) ∧
  ((wantedA ops sl r.o = some true ∧ ∃ res, semOp T env (evA sl) H r.nid r.o = some res ∧ (∀ g ∈ res.gs, g) ∧ r.v = res.v ∧ r.upd = res.upd ∧ r.c.reads = readsOf (evA sl) H r.o ∧ r.c.soft = softOf (evA sl) r.o ∧ r.c.hard = hardOf r.nid r.o res.upd ∧ (∀ p ∈ res.upd, r.nid ≤ p.1 → H p.1 = .none)) ∨
   (wantedA ops sl r.o = some false ∧ r.v = .tuple .nl ∧ r.upd = []))
def Chain (T : Tab) (env : Env) (ops : Array Oper) : List AV → (Nat → Ob) → List RR → Prop
  | _, _, [] => True
  | sl, H, r :: rs => StepA T env ops sl H r ∧ Chain T env ops (putSlot sl r.o.dst r.v) (updH H r.upd) rs
theorem Chain.split {T : Tab} {env : Env} {ops : Array Oper} : ∀ (l : List RR) (r : RR) (m : List RR) (sl : List AV) (H : Nat → Ob), Chain T env ops sl H (l ++ r :: m) → StepA T env ops (slotsF sl l) (HF H l) r
  | [], _, _, _, _, h => h.1
  | _ :: l, r, m, _, _, h => Chain.split l r m _ _ h.2
theorem ops_chain {T : Tab} {env : Env} {ops : Array Oper} {k : St → List Rc → Prop} : ∀ (l : List Nat) (s : St) (tr : List Rc), opsA T env ops l s tr k →
    ∃ rs s', Chain T env ops s.slots s.H rs ∧ rs.map (·.c.i) = l ∧ s'.slots = slotsF s.slots rs ∧ s'.H = HF s.H rs ∧ (s'.n = s.n ∧ s'.y = s.y ∧ s'.stop = s.stop) ∧ k s' ((rs.map (·.c)).reverse ++ tr)
  | [], s, tr, h => ⟨[], s, trivial, rfl, rfl, rfl, ⟨rfl, rfl, rfl⟩, h⟩
  | i :: l, s, tr, h => by
    simp only [opsA] at h
    split at h
    · cases h
    rename_i o ho
    split at h
    · cases h
    rename_i b hb
    cases b with
    | false =>
      simp only [cond_false, fixG_eq hb] at h
      obtain ⟨rs, s', h1, h2, h3, h4, h6, h5⟩ := ops_chain l _ _ h
      refine ⟨⟨⟨i, [], [], [], []⟩, o, .tuple .nl, [], s.obs.length⟩ :: rs, s', ⟨⟨ho, rfl, .inr ⟨hb, rfl, rfl⟩⟩, h1⟩, by simp [h2], h3, h4, h6, ?_⟩
      simpa using h5
    | true =>
      simp only [cond_true, fixG_eq hb] at h
      unfold opA at h
      split at h
      rotate_left
      · cases h
      rename_i r hr
      cases hok : okUpd s.obs.length r.upd with
      | false => rw [hok] at h; exact h.elim
      | true =>
        rw [hok] at h
        simp only [cond_true] at h
        obtain ⟨g1, g2⟩ := guardA_spec _ _ h
        obtain ⟨rs, s', h1, h2, h3, h4, h6, h5⟩ := ops_chain l _ _ g2
        rw [putObs_H _ _ _ _ hok] at h1 h4
        refine ⟨⟨⟨i, readsOf (evA s.slots) s.H o, r.upd.map (·.1), softOf (evA s.slots) o, hardOf s.obs.length o r.upd⟩, o, r.v, r.upd, s.obs.length⟩ :: rs, s', ⟨⟨ho, rfl, .inl ⟨hb, r, hr, g1, rfl, rfl, rfl, rfl, rfl, ?_⟩⟩, h1⟩, by simp [h2], h3, h4, h6, ?_⟩
        · intro p _ hle
          simp only [St.H, List.getD]
          rw [List.getElem?_eq_none hle]
          rfl
        · simpa using h5

/-! ### What does not meddle -/
theorem slotsF_length : ∀ (rs : List RR) (sl : List AV), (slotsF sl rs).length = sl.length
  | [], _ => rfl
  | r :: rs, sl => by
    show (slotsF (putSlot sl r.o.dst r.v) rs).length = _
    rw [slotsF_length rs, putSlot_length]
theorem updH_out {H : Nat → Ob} {u : List (Nat × Ob)} {k : Nat} (h : k ∉ u.map (·.1)) : updH H u k = H k := by
  unfold updH
  have : u.lookup k = none := by
    rw [List.lookup_eq_none_iff]
    intro p hp
    simp only [bne_iff_ne, ne_eq]
    intro e
    exact h (List.mem_map.2 ⟨p, hp, e.symm⟩)
  rw [this]
  rfl
theorem slots_filter {D : Nat → Bool} {t : Nat} : ∀ (rs : List RR) (sl sl' : List AV), sl.length = sl'.length → sl.getD t .undef = sl'.getD t .undef → (∀ q ∈ rs, D q.c.i = false → q.o.dst ≠ some t) → (slotsF sl (rs.filter fun r => D r.c.i)).getD t .undef = (slotsF sl' rs).getD t .undef
  | [], sl, sl', _, h, _ => h
  | r :: rs, sl, sl', hl, h, hq => by
    have hr := fun q hq' => hq q (List.mem_cons_of_mem _ hq')
    cases hd : D r.c.i with
    | true =>
      rw [List.filter_cons_of_pos (p := fun r : RR => D r.c.i) hd]
      refine slots_filter rs _ _ (by rw [putSlot_length, putSlot_length]; exact hl) ?_ hr
      rw [putSlot_get, putSlot_get, hl, h]
    | false =>
      rw [List.filter_cons_of_neg (by rw [hd]; simp)]
      refine slots_filter rs _ _ (by rw [putSlot_length]; exact hl) ?_ hr
      rw [putSlot_get, if_neg (fun e => hq r (by simp) hd e.1), h]
theorem slots_skip {t : Nat} : ∀ (rs : List RR) (sl : List AV), (∀ q ∈ rs, q.o.dst ≠ some t) → (slotsF sl rs).getD t .undef = sl.getD t .undef
  | [], _, _ => rfl
  | r :: rs, sl, h => by
    refine (slots_skip rs _ fun q hq => h q (List.mem_cons_of_mem _ hq)).trans ?_
    rw [putSlot_get, if_neg (fun e => h r (by simp) e.1)]
theorem H_filter {D : Nat → Bool} {k : Nat} : ∀ (rs : List RR) (H H' : Nat → Ob), H k = H' k → (∀ q ∈ rs, D q.c.i = false → k ∉ q.upd.map (·.1)) → HF H (rs.filter fun r => D r.c.i) k = HF H' rs k
  | [], _, _, h, _ => h
  | r :: rs, H, H', h, hq => by
    have hr := fun q hq' => hq q (List.mem_cons_of_mem _ hq')
    cases hd : D r.c.i with
    | true =>
      rw [List.filter_cons_of_pos (p := fun r : RR => D r.c.i) hd]
      refine H_filter rs _ _ ?_ hr
      show updH H r.upd k = updH H' r.upd k
      unfold updH
      rw [h]
    | false =>
      rw [List.filter_cons_of_neg (by rw [hd]; simp)]
      refine H_filter rs _ _ ?_ hr
      show H k = updH H' r.upd k
      rw [updH_out (hq r (by simp) hd), h]
theorem H_skip {k : Nat} : ∀ (rs : List RR) (H : Nat → Ob), (∀ q ∈ rs, k ∉ q.upd.map (·.1)) → HF H rs k = H k
  | [], _, _ => rfl
  | r :: rs, H, h => by
    refine (H_skip rs _ fun q hq => h q (List.mem_cons_of_mem _ hq)).trans ?_
    exact updH_out (h r (by simp))
theorem slots_put {d : Option Tmp} {v : AV} {t : Nat} : ∀ (rs : List RR) (sl sl' : List AV), sl'.length = sl.length → sl'.getD t .undef = (if d = some t ∧ t < sl.length then v else sl.getD t .undef) → (∀ q ∈ rs, ∀ e, d = some e → q.o.dst ≠ some e) →
    (slotsF sl' rs).getD t .undef = if d = some t ∧ t < sl.length then v else (slotsF sl rs).getD t .undef
  | [], _, _, _, h, _ => h
  | r :: rs, sl, sl', hl, h, hq => by
    have hr := fun q hq' => hq q (List.mem_cons_of_mem _ hq')
    have := slots_put (d := d) (v := v) (t := t) rs (putSlot sl r.o.dst r.v) (putSlot sl' r.o.dst r.v) (by rw [putSlot_length, putSlot_length]; exact hl) (by
      rw [putSlot_get, putSlot_get, putSlot_length, hl, h]
      by_cases h1 : d = some t ∧ t < sl.length
      · rw [if_pos h1, if_neg (fun e => hq r (by simp) t h1.1 e.1), if_pos h1]
      · rw [if_neg h1]
        rw [if_neg h1]) hr
    rw [putSlot_length] at this
    exact this
theorem H_put {u : List (Nat × Ob)} {k : Nat} : ∀ (rs : List RR) (H H' : Nat → Ob), H' k = updH H u k → (∀ q ∈ rs, k ∈ u.map (·.1) → k ∉ q.upd.map (·.1)) → HF H' rs k = updH (HF H rs) u k
  | [], _, _, h, _ => h
  | r :: rs, H, H', h, hq => by
    have hr := fun q hq' => hq q (List.mem_cons_of_mem _ hq')
    refine H_put rs (updH H r.upd) (updH H' r.upd) ?_ hr
    by_cases hk : k ∈ u.map (·.1)
    · rw [updH_out (hq r (by simp) hk), h]
      have e : updH H r.upd k = H k := updH_out (hq r (by simp) hk)
      unfold updH at e ⊢
      rw [e]
    · rw [updH_out (u := u) hk]
      unfold updH at h ⊢
      have e : u.lookup k = none := by
        rw [List.lookup_eq_none_iff]
        intro p hp
        simp only [bne_iff_ne, ne_eq]
        intro e
        exact hk (List.mem_map.2 ⟨p, hp, e.symm⟩)
      rw [e] at h
      rw [h]
      rfl
/-! ### What is looked at for its make alone -/
theorem soft_keep {T : Tab} {env : Env} {ev : Operand → AV} {H : Nat → Ob} {nid : Nat} {o : Oper} {r : Res} (hs : semOp T env ev H nid o = some r) {p : Nat × Ob} (hp : p ∈ r.upd) (hh : p.1 ∉ hardOf nid o r.upd) : p.2.shape = (H p.1).shape := by
  have base : (∀ t x, o.op ≠ .load t x) → (∀ t x y, o.op ≠ .store t x y) → False := by
    intro h1 h2
    apply hh
    unfold hardOf
    split
    · rename_i t x ho; exact absurd ho (h1 t x)
    · rename_i t x y ho; exact absurd ho (h2 t x y)
    · exact List.mem_map.2 ⟨p, hp, rfl⟩
  have keep : hardOf nid o r.upd = (r.upd.filter fun p => nid.ble p.1 || p.2.isDead).map (·.1) → nid.ble p.1 = false ∧ p.2.isDead = false := by
    intro e
    rw [e] at hh
    rw [← Bool.or_eq_false_iff]
    cases hc : (nid.ble p.1 || p.2.isDead) with
    | false => rfl
    | true => exact absurd (List.mem_map.2 ⟨p, List.mem_filter.2 ⟨hp, hc⟩, rfl⟩) hh
  cases ho : o.op with
  | load t x =>
    have hk := keep (by unfold hardOf; rw [ho])
    simp only [semOp, ho] at hs
    split at hs
    · split at hs
      · obtain ⟨v, _, h2⟩ := Option.bind_eq_some_iff.1 hs
        simp only [ok, Option.some.injEq] at h2
        rw [← h2] at hp; cases hp
      · cases hs
    · split at hs
      · obtain ⟨v, _, h2⟩ := Option.bind_eq_some_iff.1 hs
        simp only [ok, Option.some.injEq] at h2
        rw [← h2] at hp; cases hp
      · rename_i e ty xs hH
        cases hc : env.takes.contains (o.dst.getD 0)
        · rw [hc] at hs
          obtain ⟨v, _, h2⟩ := Option.bind_eq_some_iff.1 hs
          simp only [ok, Option.some.injEq] at h2
          rw [← h2] at hp; cases hp
        · rw [hc] at hs
          simp only [cond_true, semTake] at hs
          split at hs
          · split at hs
            · split at hs
              · simp only [Option.some.injEq] at hs
                rw [← hs] at hp
                simp only [List.mem_cons, List.not_mem_nil, or_false] at hp
                rcases hp with rfl | rfl
                · simp [Ob.shape, hH]
                · exact absurd hk.1 (by simp [Nat.ble_eq])
              · cases hs
            · cases hs
          · cases hs
      · cases hs
    · obtain ⟨v, _, h2⟩ := Option.bind_eq_some_iff.1 hs
      simp only [ok, Option.some.injEq] at h2
      rw [← h2] at hp; cases hp
    · split at hs
      · obtain ⟨v, _, h2⟩ := Option.bind_eq_some_iff.1 hs
        simp only [ok, Option.some.injEq] at h2
        rw [← h2] at hp; cases hp
      · cases hs
    · cases hs
  | store t x y =>
    have hk := keep (by unfold hardOf; rw [ho])
    simp only [semOp, ho] at hs
    split at hs
    · split at hs
      · rename_i hH
        split at hs
        · split at hs
          · simp only [Option.some.injEq] at hs
            rw [← hs] at hp
            simp only [List.mem_cons, List.not_mem_nil, or_false] at hp
            subst hp
            simp [Ob.shape, hH]
          · cases hs
        · cases hs
      · cases hs
    · split at hs
      · rename_i hH
        split at hs
        · split at hs
          · split at hs
            · simp only [Option.some.injEq] at hs
              rw [← hs] at hp
              simp only [List.mem_cons, List.not_mem_nil, or_false] at hp
              subst hp
              simp [Ob.shape, hH]
            · cases hs
          · cases hs
        · cases hs
      · rename_i hH
        split at hs
        · split at hs
          · split at hs
            · simp only [Option.some.injEq] at hs
              rw [← hs] at hp
              simp only [List.mem_cons, List.not_mem_nil, or_false] at hp
              subst hp
              simp [Ob.shape, hH]
            · cases hs
          · cases hs
        · cases hs
      · rename_i hH
        split at hs
        · simp only [semGive] at hs
          split at hs
          · split at hs
            · split at hs
              · simp only [Option.some.injEq] at hs
                rw [← hs] at hp
                simp only [List.mem_cons, List.not_mem_nil, or_false] at hp
                rcases hp with rfl | rfl
                · simp [Ob.shape, hH]
                · simp [Ob.isDead] at hk
              · cases hs
            · cases hs
          · cases hs
        · cases hs
      · cases hs
    · cases hs
  | _ => exact (base (fun _ _ => by rw [ho]; simp) (fun _ _ _ => by rw [ho]; simp)).elim
theorem semOp_soft {T : Tab} {env : Env} {ev : Operand → AV} {H H' : Nat → Ob} {nid : Nat} (o : Oper) (h : ∀ k ∈ readsOf ev H o, H' k = H k ∨ (k ∈ softOf ev o ∧ (H' k).shape = (H k).shape)) : semOp T env ev H' nid o = semOp T env ev H nid o := by
  by_cases hs : ∃ k, k ∈ softOf ev o ∧ H' k ≠ H k
  · obtain ⟨k, hk, hne⟩ := hs
    unfold softOf at hk
    split at hk
    rotate_left
    · cases hk
    rename_i t x i ho
    split at hk
    rotate_left
    · cases hk
    rename_i k' hx
    simp only [List.mem_singleton] at hk
    subst hk
    have hsh : (H' k).shape = (H k).shape := by
      rcases h k (by unfold readsOf; rw [ho]; simp only [hx, AV.refs, List.mem_singleton]) with e | ⟨_, e⟩
      · exact absurd e hne
      · exact e
    simp only [semOp, ho, hx]
    split
    · rfl
    · rename_i e kk j hd hi
      cases h1 : H k <;> cases h2 : H' k <;> rw [h1, h2] at hsh <;> simp only [Ob.shape, Prod.mk.injEq] at hsh <;> first
        | rfl
        | (exfalso; obtain ⟨e1, _⟩ := hsh; revert e1; decide)
        | (obtain ⟨_, rfl, e3⟩ := hsh; simp only [e3])
        | (obtain ⟨_, e2, e3⟩ := hsh; subst e2; simp only [e3])
    · rfl
  · refine semOp_local o fun k hk => ?_
    rcases h k hk with e | ⟨e, _⟩
    · exact e
    · by_cases hq : H' k = H k
      · exact hq
      · exact absurd ⟨k, e, hq⟩ hs
theorem shape_HF {k : Nat} {c : Nat × Ty × Nat} : ∀ (l : List RR) (H : Nat → Ob), (∀ q ∈ l, ∀ p ∈ q.upd, p.1 = k → p.2.shape = c) → (H k).shape = c → (HF H l k).shape = c
  | [], _, _, h => h
  | r :: l, H, hq, h => by
    refine shape_HF l (updH H r.upd) (fun q hm => hq q (List.mem_cons_of_mem _ hm)) ?_
    unfold updH
    cases hl : r.upd.lookup k with
    | none => exact h
    | some o =>
      have : (k, o) ∈ r.upd := by
        have := List.lookup_eq_some_iff.1 hl
        obtain ⟨l1, l2, e, _⟩ := this
        rw [e]; simp
      exact hq r (by simp) (k, o) this rfl
theorem chain_soft {T : Tab} {env : Env} {ops : Array Oper} {k : Nat} : ∀ (rs : List RR) (sl : List AV) (H : Nat → Ob), Chain T env ops sl H rs → (∀ q ∈ rs, k ∉ q.c.hard) → ∀ q ∈ rs, ∀ p ∈ q.upd, p.1 = k → p.2.shape = (H k).shape
  | [], _, _, _, _, q, hq => by cases hq
  | r :: rs, sl, H, ⟨hr, hc⟩, hh, q, hq => by
    have hstep : ∀ p ∈ r.upd, p.1 = k → p.2.shape = (H k).shape := by
      intro p hp hpk
      obtain ⟨_, _, hcase⟩ := hr
      rcases hcase with ⟨_, res, h1, h2, h3, h4, h5, h6, h7, h8⟩ | ⟨_, _, h2⟩
      · rw [h4] at hp
        have := soft_keep h1 hp (by rw [← h7, hpk]; exact hh r (by simp))
        rw [this, hpk]
      · rw [h2] at hp; cases hp
    rcases List.mem_cons.1 hq with rfl | hq
    · exact hstep
    · intro p hp hpk
      have h1 := chain_soft rs _ _ hc (fun q hm => hh q (List.mem_cons_of_mem _ hm)) q hq p hp hpk
      rw [h1]
      exact shape_HF [r] H (fun q hm p hp e => by simp only [List.mem_singleton] at hm; subst hm; exact hstep p hp e) rfl
end Go.Proofs.Ytkpjcmiijlpcaaa.Aw
