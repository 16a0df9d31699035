/- unit.Try: what is done within it ends by itself; the deferred closure by the calculus for recover. -/
import Derived.Test.YtpojdmikpodoaaaWa
import Derived.Tactics2
import Derived.Defers
import Derived.Recover
import Derived.Laws.Pointers
import Derived.KernelRfl
namespace Go.Proofs.Ytpojdmikpodoaaa.W
open Go Go.Proofs Go.Proofs.Ytpojdmikpodoaaa.Aw
abbrev over : Value := .iface 74 (.agg #[])
theorem und63 : Try.prog.underlying 63 = some (.int .i64) := by kernel_rfl
theorem und74 : Try.prog.underlying 74 = some (.struct #[]) := by kernel_rfl
theorem assert74 (w : World) : (Instr.typeAssert over 20 74 true).run Try.prog w = .ok (.tuple #[.agg #[], .bool true]) w := by
  unfold Instr.typeAssert
  simp only [over, Sem.run_bind, run_underlying und74, Result.andThen_ok, ↓reduceIte, Sem.run_pure]
theorem catch_over (p : Addr) (x : Int) (w : World) (hc : w.cell? p = some (.int .i64 x)) (hz : w.frozen? p = false) :
    CallsD Try.prog 63 #[.pointer (some p)] (.panicking [{ v := over, recovered := false }]) w fun e u' w' =>
      e = .returned (.tuple #[]) ∧ u' = .panicking [{ v := over, recovered := true }] ∧ w' = w.setCell p (.int .i64 13) := by
  refine callsD_of_wpS Try.func63 rfl fun c₀ cs hu => ?_
  apply wpS_seq
  apply wpS_region
  simp [wpOpsS, go_sem, recoverD, hu, Try.ntmps63, Exit.thenS]
  refine wpS_of_wp ?_
  go_wp2
  simp only [Array.replicate_succ, Array.replicate_zero, List.push_toArray, List.nil_append, List.cons_append]
  simp [go_sem, assert74]
  go_wp2
  simp [bodyPostS, results, Try.results63, go_sem]
theorem catch_idle (p : Addr) (w : World) :
    CallsD Try.prog 63 #[.pointer (some p)] .returning w fun e u' w' => e = .returned (.tuple #[]) ∧ u' = .returning ∧ w' = w := by
  refine callsD_of_wpS Try.func63 rfl fun c₀ cs hu => ?_
  apply wpS_seq
  apply wpS_region
  simp [wpOpsS, go_sem, recoverD, hu, Try.ntmps63, Exit.thenS]
  refine wpS_of_wp ?_
  go_wp2
  · cases c₀
    simp_all [bodyPostS, results, Try.results63, go_sem]
theorem setCell_heap (w : World) (p : Addr) (v : Value) (b : Nat) (h : b ≠ p.block) : (w.setCell p v).heap[b]? = w.heap[b]? := by
  unfold World.setCell
  simp [Array.getElem?_modify, Ne.symm h]
theorem setCell_size (w : World) (p : Addr) (v : Value) : (w.setCell p v).heap.size = w.heap.size := by
  unfold World.setCell
  simp
/-- A block of one's own around a call. -/
theorem rel_around {M S S' : Nat → Prop} {β β' : Nat → Cr} {H H' : Nat → Ob} {w w2 w3 : World} {o : Obj} (hr : Rel M S w S β H w) (hM : ∀ g, M g → g < w.heap.size) (h2 : Rel M S (w.alloc o) S' β' H' w2)
    (e1 : w3.os = w2.os) (e2 : w3.tape = w2.tape) (e3 : w3.output = w2.output) (hz : w3.heap.size = w2.heap.size) (hb : ∀ b, b ≠ w.heap.size → w3.heap[b]? = w2.heap[b]?) : Rel M S w S' β' H' w3 := by
  have hs := size_alloc w o
  have hsS : ∀ b, S' b → b ≠ w.heap.size := fun b hb => by
    rcases (h2.sS b hb).2 with q | q
    · exact Nat.ne_of_lt (hr.sS b q).1
    · omega
  have hown : ∀ k g, (H' k).live = true → (β' k).g = some g → g ≠ w.heap.size := fun k g hl hg => by
    rcases (h2.own k g hl hg).1 with q | q
    · exact Nat.ne_of_lt (hM g q)
    · omega
  have hx : Ext S' w2 β' H' S' w3 β' H' := ⟨fun b hs => ⟨hs, hb b (hsS b hs)⟩, fun _ => ObExt.refl _ _⟩
  refine ⟨⟨e1.trans h2.fr.os, e2.trans h2.fr.tape, e3.trans h2.fr.output, by have := h2.fr.size; omega, fun b hlt hm => ?_⟩, h2.s0, fun b q => ⟨by have := (h2.sS b q).1; omega, ?_⟩, fun k g hl hg => ⟨?_, by have := (h2.own k g hl hg).2.1; omega, (h2.own k g hl hg).2.2⟩, h2.dis, fun k => ob_live hx (h2.ob k) rfl rfl fun g hl hg => hb g (hown k g hl hg)⟩
  · rw [hb b (by omega), h2.fr.block b (by omega) hm, heap_alloc_lt w o b hlt]
  · rcases (h2.sS b q).2 with h | h
    · exact .inl h
    · right; omega
  · rcases (h2.own k g hl hg).1 with h | h
    · exact .inl h
    · right; omega
theorem rel_in {M S : Nat → Prop} {β : Nat → Cr} {H : Nat → Ob} {w : World} (o : Obj) (hr : Rel M S w S β H w) : Rel M S (w.alloc o) S β H (w.alloc o) ∧ Ext S w β H S (w.alloc o) β H := by
  have hs := size_alloc w o
  obtain ⟨h1, hx⟩ := hr.grow (w' := w.alloc o) rfl rfl rfl (by omega) (fun b hb => heap_alloc_lt w o b hb)
  refine ⟨⟨Fr.refl _ _, fun _ h => h, fun b h => ⟨(h1.sS b h).1, .inl h⟩, fun k g hl hg => ⟨?_, (h1.own k g hl hg).2⟩, h1.dis, h1.ob⟩, hx⟩
  have := hr.own k g hl hg
  rcases this.1 with q | q
  · exact .inl q
  · have := this.2.1; omega
/-- What is done within a Try. -/
theorem try_ok {g : FuncId} {caps : List AV} {obs obs' : List Ob} {v : AV} {pn : Option Value} (hpn : pn = none ∨ pn = some over) (h : ACalls2 Try.prog g caps obs v obs' pn) (n : Int) (hn : n = bif pn.isSome then 13 else 0) :
    ACalls2 Try.prog 47 [.fn (.func g) .nl (AV.ofList caps)] obs (.int .i64 n) obs' := by
  obtain ⟨⟨fn, f1, f2, f3⟩, hrun⟩ := h
  refine ⟨⟨Try.f47, Try.func47, by kernel_rfl, by kernel_rfl⟩, fun S β w vs hr hv => ?_⟩
  obtain ⟨v0, r0, rfl, ⟨p, q, e, hp, hq⟩, rfl⟩ := hv
  simp only [List.cons.injEq, and_true] at e
  subst e
  have hp' : p = [] := hp
  subst hp'
  have hmf : ∀ (fn : Fn) (first cap : Array Value) (w : World), (Instr.makeFunc fn first cap).run Try.prog w = .ok (.func fn first cap) w := fun _ _ _ _ => rfl
  have hM : ∀ b, Mof β obs b → b < w.heap.size := fun b ⟨i, hl, hg⟩ => (hr.own i b hl hg).2.1
  have hqs : VLs S w β (newsH obs) caps q := by
    have := VL.list_of _ _ (AV.chain_ofList caps) hq
    rwa [AV.toList_ofList] at this
  obtain ⟨hr1, hx1⟩ := rel_in (.cells #[.int .i64 0] 63) hr
  have hc := hrun S β _ q hr1 (VLs.ext hx1 _ _ hqs)
  go_enter_defers Try.func47, Try.ntmps47
  go_wp2
  rw [run_enter f1 f2 f3]
  rw [Oper.upon_enter]
  refine Calls.mono hc ?_
  rintro e w2 ⟨u, rfl, S', β', h2, -, hx2⟩
  have hblk : w2.heap[w.heap.size]? = some (.cells #[.int .i64 0] 63) := by
    rw [h2.fr.block _ (by rw [size_alloc]; omega) (fun hm => Nat.lt_irrefl _ (hM _ hm)), heap_alloc_at]
  have hcell : w2.cell? ⟨w.heap.size, 0, none⟩ = some (.int .i64 0) := by
    simp [World.cell?, hblk]
  have hfro : w2.frozen? ⟨w.heap.size, 0, none⟩ = false := by
    simp [World.frozen?, hblk]
  have hfin : ∀ n : Int, Rel (Mof β obs) S w S' β' (newsH obs') (w2.setCell ⟨w.heap.size, 0, none⟩ (.int .i64 n)) := fun n =>
    rel_around hr hM h2 rfl rfl rfl (setCell_size _ _ _) (fun b hb => setCell_heap _ _ _ b hb)
  have hcl : ∀ n : Int, (w2.setCell ⟨w.heap.size, 0, none⟩ (.int .i64 n)).cell? ⟨w.heap.size, 0, none⟩ = some (.int .i64 n) := fun n => by
    simp [hcell, go_sem]
  rcases hpn with rfl | rfl
  · simp only [endOf]
    go_wp2
    refine leaves_cons (f := 63) (args := #[.pointer (some ⟨w.heap.size, 0, none⟩)]) (by simp) (by simp [go_sem]) ?_
    refine (catch_idle ⟨w.heap.size, 0, none⟩ _).mono ?_
    rintro e u' w'' ⟨rfl, rfl, rfl⟩
    refine ⟨.int .i64 0, by simp [results, Try.results47, go_sem, hcl], ⟨_, rfl, S', β', hfin 0, ⟨_, rfl, ?_⟩, hx2⟩⟩
    show _ = _
    rw [hn]
    rfl
  · simp only [endOf]
    refine leaves_cons (f := 63) (args := #[.pointer (some ⟨w.heap.size, 0, none⟩)]) (by simp) (by simp [go_sem]) ?_
    refine (catch_over ⟨w.heap.size, 0, none⟩ 0 _ hcell hfro).mono ?_
    rintro e u' w'' ⟨rfl, rfl, rfl⟩
    refine ⟨.int .i64 13, by simp [results, Try.results47, go_sem, hcl], ⟨_, rfl, S', β', hfin 13, ⟨_, rfl, ?_⟩, hx2⟩⟩
    show _ = _
    rw [hn]
    rfl
theorem chain_list : ∀ c : AV, c.chain = true → AV.ofList c.toList = c
  | .nl, _ => rfl
  | .cons a b, h => by
    show AV.cons a (AV.ofList b.toList) = _
    rw [chain_list b h]
/-- A Try of a function whose contract is known. -/
def tryCon (l : Cons3) : List AV → List Ob → Option Tells2
  | [.fn (.func g) .nl c], obs => bif c.chain then (match panOf_ l g with
    | some f => match f c.toList obs with
      | some t => some ⟨(t.b = true → t.x = over) :: t.pre, .int .i64 (bif t.b then 13 else 0), t.olds, t.news⟩
      | none => none
    | none => none) else none
  | _, _ => none
theorem try_con (l : Cons3) (hl : ∀ c ∈ l, ConOk3 Try.prog c) : ConOk2 Try.prog (47, tryCon l) := by
  intro args obs t h hp
  simp only [tryCon] at h
  split at h
  · rename_i g c
    cases hc : c.chain with
    | false => rw [hc] at h; cases h
    | true =>
      rw [hc] at h
      simp only [cond_true] at h
      split at h
      · rename_i f hf
        split at h
        · rename_i t' ht
          cases h
          have hp' := panOf_ok l hl g f c.toList _ t' hf ht (fun p h => hp p (List.mem_cons_of_mem _ h))
          have hx := hp (t'.b = true → t'.x = over) (List.mem_cons_self ..)
          cases hb : t'.b with
          | false => simpa [chain_list c hc] using try_ok (.inl rfl) (hp'.1 hb) 0 rfl
          | true =>
            have h1 := hp'.2 hb
            rw [hx hb] at h1
            have h2 := try_ok (.inr rfl) h1 13 rfl
            rw [chain_list c hc] at h2
            simpa using h2
        · cases h
      · cases h
  · cases h
end Go.Proofs.Ytpojdmikpodoaaa.W
