/- An abstract program logic over the model: a range over a function, and bodies, are sound. -/
import Derived.Test.YtkpjcmiijlpcaaaDoorAwAA
namespace Go.Proofs.YtkpjcmiijlpcaaaDoor.Aw
open Go
structure Core (π:Pin) (a:Act) (S own0:Nat→Prop) (n1 L:Nat) (Ds:Nat→Prop) (t:St) (S':Nat→Prop) (β':Nat→Cr) (X W:Nat→Prop) (w:World):Prop where
 rel:Rel (ownB β' t.H) S' w S' β' t.H w
 sl:∀u,VL S' w β' t.H (t.slots.getD u .undef) [a.tmps.getD u undef]
 len:t.slots.length≤a.tmps.size
 pin:∀k,k<π.n→ObExt (π.β k) (π.H k) (β' k) (t.H k)
 s1:∀b,S b→S' b
 s2:∀b,S' b→S b∨n1≤b
 own:∀b,ownB β' t.H b→own0 b∨n1≤b
 hX:∀b,X b↔(ownB β' t.H b∨S' b∨b=L∨Ds b)
 hW:∀b,W b↔(ownB β' t.H b∨b=L)
 lS:¬S' L∧¬ownB β' t.H L
 ds:∀D,Ds D→¬S' D∧¬ownB β' t.H D∧D≠L∧w.heap[D]? = some (.deferred (some []))
 dn:∀D,Ds D→D<n1
 sz:n1≤w.heap.size
def jumpOf:Ex→Option Code
 | .ret=>some .ret
 | .exit id=>some (.exit id)
 | _=>none
section
variable {P:Program} {T:Tab} {env:Env} {x0 y0:Code} {π:Pin} {a:Act} {S own0:Nat→Prop} {n1 L:Nat} {Ds:Nat→Prop} {t:St} {S':Nat→Prop} {β':Nat→Cr} {X W:Nat→Prop} {w w':World}
theorem Core.stays (h:Core π a S own0 n1 L Ds t S' β' X W w) (hz:w.heap.size≤w'.heap.size) (hX:∀g,X g→w'.heap[g]? = w.heap[g]?):Core π a S own0 n1 L Ds t S' β' X W w':=by
 obtain⟨hr,hx⟩:=h.rel.rebase hz (fun b hb=>hX b ((h.hX b).2 (.inr (.inl hb)))) (fun b hb=>hX b ((h.hX b).2 (.inl hb)))
 exact⟨hr,fun u=>VL.ext hx _ _ (h.sl u),h.len,h.pin,h.s1,h.s2,h.own,h.hX,h.hW,h.lS,fun D hD=>by
  obtain⟨q1,q2,q3,q4⟩:=h.ds D hD
  exact⟨q1,q2,q3,(hX D ((h.hX D).2 (.inr (.inr (.inr hD))))).trans q4⟩,h.dn,Nat.le_trans h.sz hz⟩
theorem Core.back (h:Core π a S own0 n1 L Ds t S' β' X W w) {S2:Nat→Prop} {M2:Nat→Prop} {w2:World} {S0':Nat→Prop} {w0':World} {β2:Nat→Cr} {t2:St}
 (hr:Rel M2 S0' w0' S2 β2 t2.H w2) (hs:∀b,S' b→S2 b) (hsz:w.heap.size≤w2.heap.size) (hS:∀b,S' b→w2.heap[b]? = w.heap[b]?) (hp:∀k,k<t.obs.length→ObExt (β' k) (t.H k) (β2 k) (t2.H k))
 (hs2:∀b,S2 b→S b∨n1≤b) (hown:∀b,ownB β2 t2.H b→own0 b∨n1≤b) (hl:¬S2 L∧¬ownB β2 t2.H L) (hd:∀D,Ds D→¬S2 D∧¬ownB β2 t2.H D∧w2.heap[D]? = some (.deferred (some []))) :
 Core π a S own0 n1 L Ds (backSt t t2) S2 β2 (fun b=>ownB β2 t2.H b∨S2 b∨b=L∨Ds b) (fun b=>ownB β2 t2.H b∨b=L) w2:=by
 have hx:Ext S' w β' t.H S2 w2 β2 t2.H:=⟨fun b hb=>⟨hs b hb,hS b hb⟩,fun k=>by
  by_cases hk:k<t.obs.length
  · exact hp k hk
  · have:t.H k=.none:=by
     simp only[St.H,List.getD]
     rw[List.getElem?_eq_none (by omega)]
     rfl
    rw[this];trivial⟩
 exact⟨(hr.rebase (Nat.le_refl _) (fun _ _=>rfl) (fun _ _=>rfl)).1,fun u=>VL.ext hx _ _ (h.sl u),h.len,fun k hk=>(h.pin k hk).trans (hx.hO k),fun b hb=>hs b (h.s1 b hb),hs2,hown,fun _=>Iff.rfl,fun _=>Iff.rfl,hl,fun D hD=>⟨(hd D hD).1,(hd D hD).2.1,(h.ds D hD).2.2.1,(hd D hD).2.2⟩,h.dn,Nat.le_trans h.sz hsz⟩
theorem Core.tidy (h:Core π a S own0 n1 L Ds t S' β' X W w) (hn:t.n=π.n) (live:List Nat):∃β2,Core π a S own0 n1 L Ds (t.tidy live) S' β2 (fun b=>ownB β2 (t.tidy live).H b∨S' b∨b=L∨Ds b) (fun b=>ownB β2 (t.tidy live).H b∨b=L) w∧∀b,ownB β2 (t.tidy live).H b→ownB β' t.H b:=by
 obtain⟨β2,hi⟩:=tidy_sound (M:=ownB β' t.H) (S0:=S') (w0:=w) (a:=⟨a.tmps,[]⟩) live hn ⟨h.rel,h.len,h.sl,⟨fun _=>rfl,trivial⟩,h.pin⟩
 have ho:∀b,ownB β2 (t.tidy live).H b→ownB β' t.H b:=by
  rintro b ⟨k,hl,hg⟩
  have:=hi.rel.own k b hl hg
  rcases this.1 with h1 | h1
  · exact h1
  · omega
 exact⟨β2,⟨(hi.rel.rebase (Nat.le_refl _) (fun _ _=>rfl) (fun _ _=>rfl)).1,hi.sl,hi.len,hi.pin,h.s1,h.s2,fun b hb=>h.own b (ho b hb),fun _=>Iff.rfl,fun _=>Iff.rfl,⟨h.lS.1,fun hb=>h.lS.2 (ho _ hb)⟩,fun D hD=>⟨(h.ds D hD).1,fun hb=>(h.ds D hD).2.1 (ho _ hb),(h.ds D hD).2.2⟩,h.dn,h.sz⟩,ho⟩
theorem round_ok (hA:∀(c:Code),(c=x0∨c=y0)→CodeOk P T env.noY c) {fn:FuncId} {ps:Array Tmp} {db:Nat} {live1 live2:List Nat} {K:Ex→St→Prop} (hKp:∀x t2,¬K (.panic x) t2)
 (hc:Core π a S own0 n1 L Ds t S' β' X W w) (hL:w.heap[L]? = some (.loop {state:=.ready,pending:=none,fn,tmps:=a.tmps,params:=ps,assign:=x0,body:=y0,defers:=db}))
 {S2:Nat→Prop} {us:List Value} {as:List AV} (hus:VLs S2 w cr0 ob0 as us) (hS2:∀b,S2 b→b<w.heap.size∧¬W b∧(S b∨n1≤b)) (hlen:as.length=ps.toList.length)
 (hrun:codeG loopB T x0 env.noY live1 (roundSt ps.toList as t) (thenA (fun s'=>codeG loopB T y0 env.noY live2 s' K) never)) :
 ∃f tmps assign body,(Instr.yield L us.toArray).run P w=.ok (.round L f tmps assign body) w∧RoundIn (Wd none) 0 P L f tmps assign body w fun e w'=>
  ∃b t2 S3 β3 ex,e=.returned (.bool b)∧Core π a S own0 n1 L Ds (backSt t t2) S3 β3 (fun b=>ownB β3 t2.H b∨S3 b∨b=L∨Ds b) (fun b=>ownB β3 t2.H b∨b=L) w'∧Fr W w w'∧(∀g,ownB β3 t2.H g→W g∨w.heap.size≤g)∧(∀g,S3 g→(X g∨S2 g∨w.heap.size≤g)∧g<w'.heap.size)∧K ex t2 ∧
   ((b=true∧ex=.normal∧w'.heap[L]? = some (.loop {state:=.ready,pending:=none,fn,tmps:=a.tmps,params:=ps,assign:=x0,body:=y0,defers:=db})) ∨
    (b=false∧∃jc,jumpOf ex=some jc∧w'.heap[L]? = some (.loop {state:=.done,pending:=some jc,fn,tmps:=a.tmps,params:=ps,assign:=x0,body:=y0,defers:=db}))):=by
 obtain⟨rec,hrec⟩:∃rec:LoopState→Option Code→Loop,rec=fun st pe=>{state:=st,pending:=pe,fn,tmps:=a.tmps,params:=ps,assign:=x0,body:=y0,defers:=db}:=⟨_,rfl⟩
 have hul:us.length=as.length:=by have:=VLs.length _ _ hus;omega
 have hLlt:=lt_of_heap hL
 refine⟨fn,_,x0,y0,run_yield hL (by rw[List.size_toArray,hul,hlen];rfl),roundIn_of_wpIn (F:=Wd none) trivial ?_⟩
 rw[zip_foldl]
 let S1:Nat→Prop:=fun b=>S' b∨S2 b
 have hWo:∀b,ownB β' t.H b→W b:=fun b hb=>(hc.hW b).2 (.inl hb)
 have hWL:W L:=(hc.hW L).2 (.inr rfl)
 have hx1:Ext S' w β' t.H S1 w β' t.H:=Ext.wide fun b hb=>.inl hb
 have hrel1:Rel (ownB β' t.H) S1 w S1 β' t.H w:=by
  refine⟨Fr.refl _ _,fun _ hb=>hb,fun b hb=>⟨?_,.inl hb⟩,fun k g hl hg=>⟨.inl ⟨k,hl,hg⟩,(hc.rel.own k g hl hg).2.1,?_⟩,hc.rel.dis,fun k=>ob_live hx1 (hc.rel.ob k) rfl rfl fun _ _ _=>rfl,hc.rel.gl.mono hx1.hS⟩
  · rcases hb with hb | hb
    · exact (hc.rel.sS b hb).1
    · exact (hS2 b hb).1
  · rintro (hb | hb)
    · exact (hc.rel.own k g hl hg).2.2 hb
    · exact (hS2 g hb).2.1 (hWo g ⟨k,hl,hg⟩)
 have hx2:Ext S2 w cr0 ob0 S1 w β' t.H:=⟨fun b hb=>⟨.inr hb,rfl⟩,fun _=>trivial⟩
 obtain⟨hlen1,hsl1⟩:=setL_sl (S:=S1) (w:=w) (β:=β') (H:=t.H) ps.toList as us t.slots a.tmps hlen (hul.trans hlen) hc.len (fun u=>VL.ext hx1 _ _ (hc.sl u)) (VLs.ext hx2 _ _ hus)
 let π1:Pin:=⟨t.obs.length,β',t.H,true⟩
 have hS1L:¬S1 L:=by
  rintro (hb | hb)
  · exact hc.lS.1 hb
  · exact (hS2 L hb).2.1 hWL
 have hnS1D:∀D,Ds D→¬S1 D:=by
  intro D hD hb
  rcases hb with hb | hb
  · exact (hc.ds D hD).1 hb
  · have:=hc.dn D hD
    rcases (hS2 D hb).2.2 with h | h
    · exact (hc.ds D hD).1 (hc.s1 D h)
    · omega
 refine hA x0 (.inl rfl) (some L) (fun _ _ M S0 w0=>ownB β' t.H=M∧S1=S0∧w=w0) π1 YieldOk.noY (fun y st M S0 w0 hB l hl=>by
  obtain⟨rfl,rfl,rfl⟩:=hB
  cases hl
  exact⟨_,hL,hc.lS.2⟩) (fun _=>.inl rfl) (fun _=>rfl) live1 (roundSt ps.toList as t) _ _ S1 β' ⟨_,[]⟩ w ⟨_,_,_,⟨rfl,rfl,rfl⟩,hrel1,hlen1,hsl1,⟨fun _=>rfl,trivial⟩,fun k _=>ObExt.refl _ _⟩ rfl hrun ?_
 rintro e sA SA βA aA wA ⟨MA,S0A,w0A,⟨rfl,rfl,rfl⟩,hiA⟩ hnA hKA
 cases e with
 | exit id=>exact hKA.elim
 | ret=>exact hKA.elim
 | panic xx=>exact hKA.elim
 | normal=>
 have hLA:wA.heap[L]? = some (.loop (rec .ready none)):=by rw[hrec];exact (hiA.rel.fr.block L hLlt hc.lS.2).trans hL
 have hAL:¬SA L:=by
  intro hb
  rcases (hiA.rel.sS L hb).2 with h | h
  · exact hS1L h
  · omega
 have hAoL:¬ownB βA sA.H L:=by
  rintro ⟨k,hl,hg⟩
  rcases (hiA.rel.own k L hl hg).1 with h | h
  · exact hc.lS.2 h
  · omega
 show ∃w₂,_
 refine⟨_,run_beginRound hLA (by rw[hrec]),?_⟩
 obtain⟨wB,hwB⟩:∃wB,wA.putObj L (.loop {rec .ready none with state:=.busy})=wB:=⟨_,rfl⟩
 rw[hwB]
 have hzB:wB.heap.size=wA.heap.size:=by rw[←hwB];exact World.putObj_size
 have hoB:∀b,b≠L→wB.heap[b]? = wA.heap[b]? := fun b hb=>by rw[←hwB];exact World.putObj_heap_other hb
 have hLltA:L<wA.heap.size:=lt_of_heap hLA
 have hLB:wB.heap[L]? = some (.loop (rec .busy none)):=by rw[←hwB,hrec];exact World.putObj_heap_same hLltA
 obtain⟨hrelB,hxB⟩:=hiA.rel.rebase (w':=wB) (by omega) (fun b hb=>hoB b (fun e=>hAL (e▸hb))) (fun b hb=>hoB b (fun e=>hAoL (e▸hb)))
 have hdef:aA.defers=[]:=hiA.nod.1 rfl
 have hiB:Inv (ownB βA sA.H) SA wB π1 sA.slots sA.H SA βA aA wB:=⟨hrelB,hiA.len,fun u=>VL.ext hxB _ _ (hiA.sl u),⟨fun _=>hdef,by rw[hdef];trivial⟩,hiA.pin⟩
 refine hA y0 (.inr rfl) (some L) (fun _ _ M S0 w0=>ownB βA sA.H=M∧SA=S0∧wB=w0) π1 YieldOk.noY (fun y st M S0 w0 hB l hl=>by
  obtain⟨rfl,rfl,rfl⟩:=hB
  cases hl
  exact⟨_,hLB,hAoL⟩) (fun _=>.inl rfl) (fun _=>rfl) live2 sA _ _ SA βA aA wB ⟨_,_,_,⟨rfl,rfl,rfl⟩,hiB⟩ hnA hKA ?_
 rintro ex sC SC βC aC wC ⟨MC,S0C,w0C,⟨rfl,rfl,rfl⟩,hiC⟩ hnC hKC
 have hLltB:L<wB.heap.size:=lt_of_heap hLB
 have hLC:wC.heap[L]? = some (.loop (rec .busy none)):=(hiC.rel.fr.block L hLltB hAoL).trans hLB
 have hCL:¬SC L:=by
  intro hb
  rcases (hiC.rel.sS L hb).2 with h | h
  · exact hAL h
  · omega
 have hCoL:¬ownB βC sC.H L:=by
  rintro ⟨k,hl,hg⟩
  rcases (hiC.rel.own k L hl hg).1 with h | h
  · exact hAoL h
  · omega
 have hzAC:=hiC.rel.fr.size
 have hzwA:=hiA.rel.fr.size
 have fin:∀(jump:Option Code),∃wD,(Instr.endRound L jump).run P wC=.ok (.bool jump.isNone) wD∧wD.heap[L]? = some (.loop (rec (if jump.isNone then .ready else .done) jump)) ∧
  Core π a S own0 n1 L Ds (backSt t sC) SC βC (fun b=>ownB βC sC.H b∨SC b∨b=L∨Ds b) (fun b=>ownB βC sC.H b∨b=L) wD∧Fr W w wD∧(∀g,ownB βC sC.H g→W g∨w.heap.size≤g)∧(∀g,SC g→(X g∨S2 g∨w.heap.size≤g)∧g<wD.heap.size):=by
  intro jump
  obtain⟨wD,hwD⟩:∃wD,wC.putObj L (.loop {rec .busy none with state:=if jump.isNone then .ready else .done,pending:=jump})=wD:=⟨_,rfl⟩
  have hzD:wD.heap.size=wC.heap.size:=by rw[←hwD];exact World.putObj_size
  have hoD:∀b,b≠L→wD.heap[b]? = wC.heap[b]? := fun b hb=>by rw[←hwD];exact World.putObj_heap_other hb
  have ownA:∀b,ownB βA sA.H b→ownB β' t.H b∨w.heap.size≤b:=fun b ⟨k,hl,hg⟩=>(hiA.rel.own k b hl hg).1
  have ownC:∀b,ownB βC sC.H b→ownB β' t.H b∨w.heap.size≤b:=fun b ⟨k,hl,hg⟩=>by
   rcases (hiC.rel.own k b hl hg).1 with h | h
   · exact ownA b h
   · exact .inr (by omega)
  have stay:∀b,b<w.heap.size→¬W b→wD.heap[b]? = w.heap[b]? := by
   intro b hb hW
   have h1:b≠L:=fun e=>hW (e▸hWL)
   have h2:¬ownB β' t.H b:=fun h=>hW (hWo b h)
   have h3:¬ownB βA sA.H b:=fun h=>by
    rcases ownA b h with h | h
    · exact h2 h
    · omega
   rw[hoD b h1,hiC.rel.fr.block b (by omega) h3,hoB b h1,hiA.rel.fr.block b hb h2]
  have sAC:∀b,SC b→S1 b∨w.heap.size≤b:=fun b hb=>by
   rcases (hiC.rel.sS b hb).2 with h | h
   · rcases (hiA.rel.sS b h).2 with h | h
     · exact .inl h
     · exact .inr h
   · exact .inr (by omega)
  have hfr:Fr W w wD:=by
   refine⟨?_,?_,?_,by omega,stay,by rw[←hwD];exact Nat.le_trans (by have:=hiA.rel.fr.drawn;rw[←hwB];exact this) hiC.rel.fr.drawn⟩
   · rw[←hwD];exact hiC.rel.fr.os.trans (by rw[←hwB];exact hiA.rel.fr.os)
   · rw[←hwD];exact hiC.rel.fr.tape.trans (by rw[←hwB];exact hiA.rel.fr.tape)
   · rw[←hwD];exact hiC.rel.fr.output.trans (by rw[←hwB];exact hiA.rel.fr.output)
  have hnW:∀b,S' b→¬W b:=fun b hb hW=>by
   rcases (hc.hW b).1 hW with ⟨k,hl,hg⟩ | rfl
   · exact (hc.rel.own k b hl hg).2.2 hb
   · exact hc.lS.1 hb
  refine⟨wD,?_,?_,?_,hfr,fun g hg=>(ownC g hg).imp (hWo g) id,fun g hg=>⟨?_,by have:=(hiC.rel.sS g hg).1;omega⟩⟩
  · have:=run_endRound (P:=P) jump hLC
    rw[hwD] at this
    exact this
  · rw[←hwD]
    have:=World.putObj_heap_same (w:=wC) (r:=L) (o:=.loop {rec .busy none with state:=if jump.isNone then .ready else .done,pending:=jump}) (lt_of_heap hLC)
    rw[this,hrec]
  · have hrelD:=(hiC.rel.rebase (w':=wD) (by omega) (fun b hb=>hoD b (fun e=>hCL (e▸hb))) (fun b hb=>hoD b (fun e=>hCoL (e▸hb)))).1
    refine hc.back hrelD (fun b hb=>hiC.rel.s0 b (hiA.rel.s0 b (.inl hb))) hfr.size (fun b hb=>stay b (hc.rel.sS b hb).1 (hnW b hb)) hiC.pin (fun b hb => ?_) (fun b hb => ?_) ⟨hCL,hCoL⟩ (fun D hD => ?_)
    · rcases sAC b hb with (h | h) | h
      · exact hc.s2 b h
      · exact (hS2 b h).2.2
      · exact .inr (by have:=hc.sz;omega)
    · rcases ownC b hb with h | h
      · exact hc.own b h
      · exact .inr (by have:=hc.sz;omega)
    · have hDn:=hc.dn D hD
      have hDw:D<w.heap.size:=by have:=hc.sz;omega
      obtain⟨d1,d2,d3,d4⟩:=hc.ds D hD
      refine⟨fun hb => ?_,fun hb => ?_,(stay D hDw (fun hW => ?_)).trans d4⟩
      · rcases sAC D hb with h | h
        · exact hnS1D D hD h
        · omega
      · rcases ownC D hb with h | h
        · exact d2 h
        · omega
      · rcases (hc.hW D).1 hW with h | h
        · exact d2 h
        · exact d3 h
  · rcases sAC g hg with (h | h) | h
    · exact .inl ((hc.hX g).2 (.inr (.inl h)))
    · exact .inr (.inl h)
    · exact .inr (.inr h)
 cases ex with
 | panic xx=>exact (hKp xx sC hKC).elim
 | normal=>
  obtain⟨wD,g1,g2,g3,g4,g5,g6⟩:=fin none
  exact⟨_,wD,g1,true,sC,SC,βC,.normal,rfl,g3,g4,g5,g6,hKC,.inl ⟨rfl,rfl,by rw[hrec] at g2;exact g2⟩⟩
 | ret=>
  obtain⟨wD,g1,g2,g3,g4,g5,g6⟩:=fin (some .ret)
  exact⟨_,wD,g1,false,sC,SC,βC,.ret,rfl,g3,g4,g5,g6,hKC,.inr ⟨rfl,_,rfl,by rw[hrec] at g2;exact g2⟩⟩
 | exit id=>
  obtain⟨wD,g1,g2,g3,g4,g5,g6⟩:=fin (some (.exit id))
  exact⟨_,wD,g1,false,sC,SC,βC,.exit id,rfl,g3,g4,g5,g6,hKC,.inr ⟨rfl,_,rfl,by rw[hrec] at g2;exact g2⟩⟩
theorem run_code_jump {Q':Exit→Act→World→Prop} {e:Ex} {jc:Code} (hj:jumpOf e=some jc) {ρ:Option Nat} {a:Act} {w:World} (h:Q' (exOf e) a w):jc.wpIn (Wd ρ) 0 P Q' a w:=by
 cases e with
 | normal=>cases hj
 | panic x=>cases hj
 | ret=>cases hj;exact wpIn_ret h
 | exit id=>cases hj;exact wpIn_exit h
theorem range_sound (he:EnvOk P env) {f:Operand} {ps:Array Tmp} (hA:∀(c:Code),(c=x0∨c=y0)→CodeOk P T env.noY c):CodeOk P T env (.rangeFunc f ps x0 y0):=by
 intro ρ B π hY hR hr1 hr2 L0 s Q Q' S β a w hi hn h hq
 obtain⟨M,S0,w0,hb,hi⟩:=hi
 simp only[codeA,codeG] at h
 generalize hlive:(expo x0).1++(expo y0).1++L0=live at h
 generalize (expo y0).1++(expo x0).1++L0=live1 at h
 split at h
 · exact h.elim
 rename_i perm t hit
 cases hit0:env.isIt with
 | true=>rw[hit0] at h;exact h.elim
 | false=>
 rw[hit0] at h
 simp only[cond_false] at h
 obtain⟨hpre,I,hI0,hround,hend⟩:=guardA_spec _ _ h
 unfold iterOf at hit
 split at hit
 rotate_left
 · cases hit
 rename_i g x y hfv
 split at hit
 rotate_left
 · cases hit
 rename_i hch
 simp only[Bool.and_eq_true] at hch
 simp only at hit
 generalize hperm:reachH s.H 8 ((x.toList++y.toList).flatMap AV.refs) []=perm0 at hit
 have hlive0:∀k∈perm0,(s.H k).live=true:=by rw[←hperm];exact reachH_live 8 _ [] (by simp)
 cases hnb:nodupB perm0 with
 | false=>rw[hnb] at hit;cases hit
 | true=>
 rw[hnb] at hit
 simp only[cond_true] at hit
 split at hit
 rotate_left
 · cases hit
 rename_i t0 hiter
 cases hit
 have hnd:=nodup_of _ hnb
 obtain⟨⟨fn,k1,k2,k3⟩,hrun⟩:=he.iter g _ _ _ _ hiter hpre
 have hf:=ev_of hi.rel.gl hi.sl f
 rw[hfv] at hf
 obtain⟨vp,vq,e1,v1',v2'⟩:=hf
 simp only[List.cons.injEq,and_true] at e1
 have v1:=VL.list_of x vp hch.1 v1'
 have v2:=VL.list_of y vq hch.2 v2'
 refine wpIn_rangeFunc ?_
 intro fnid _
 obtain⟨L,mark,w1,db,henter,q1,q2,q3,q4,q5,q6,q7,q8,q9⟩:=enter_ok (P:=P) (w:=w) (ρ:=ρ) (fun l hl=>by
  obtain⟨r,h1,h2⟩:=hR _ _ _ _ _ hb l hl
  exact⟨r,(hi.rel.fr.block l (lt_of_heap h1) h2).trans h1⟩) fnid a.tmps ps x0 y0
 obtain⟨rec,hrec⟩:∃rec:LoopState→Option Code→Loop,rec=fun st pe=>{state:=st,pending:=pe,fn:=fnid,tmps:=a.tmps,params:=ps,assign:=x0,body:=y0,defers:=db}:=⟨_,rfl⟩
 have hd:=dr_of (run_drawn _ _ _ _ _ henter)
 obtain⟨hrel1,hx1⟩:=hi.rel.grow q1 q2 q3 q4 q5
 have hH1:∀k,(St.mk s.slots (deadL perm s.obs 0) s.n s.y s.stop).H k=s.H k∨(St.mk s.slots (deadL perm s.obs 0) s.n s.y s.stop).H k=.dead:=fun k=>by
  rcases deadL_get perm s.obs 0 k with h | h
  · exact .inl h
  · exact .inr h.1
 obtain⟨hrel2,hx2⟩:=hrel1.drop _ hH1
 have hown2:∀b,ownB β (St.mk s.slots (deadL perm s.obs 0) s.n s.y s.stop).H b→ownB β s.H b∧∀k,k∈perm→¬(β k).has b:=by
  rintro b ⟨k,hl,hg⟩
  rcases hH1 k with h | h
  · rw[h] at hl
    refine⟨⟨k,hl,hg⟩,fun k' hk' hg' => ?_⟩
    have:=hi.rel.dis k k' b hl (hlive0 k' hk') hg hg'
    subst this
    have hlt:k<s.obs.length:=by
     rcases Nat.lt_or_ge k s.obs.length with h | h
     · exact h
     · have:s.H k=.none:=by simp only[St.H,List.getD];rw[List.getElem?_eq_none h];rfl
       rw[this] at hl;cases hl
    have hd:=deadL_dead perm s.obs 0 k (by rw[Nat.zero_add];exact hk') hlt
    have:(St.mk s.slots (deadL perm s.obs 0) s.n s.y s.stop).H k=.dead:=hd
    rw[h] at this
    rw[this] at hl;cases hl
  · rw[h] at hl;cases hl
 let Ds:Nat→Prop:=fun D=>∃d∈mark,d.target=.collected D
 have hDs:∀D,Ds D→w.heap.size≤D∧D≠L∧w1.heap[D]? = some (.deferred (some [])):=by
  rintro D ⟨d,hd,ht⟩
  rcases q8 with rfl | ⟨D',rfl,r1,r2,r3⟩
  · cases hd
  · simp only[List.mem_singleton] at hd
    subst hd
    cases ht
    exact⟨r1,r2,r3⟩
 have hown_lt:∀b,ownB β s.H b→b<w.heap.size:=fun b ⟨k,hl,hg⟩=>(hi.rel.own k b hl hg).2.1
 have core0:Core π a S (ownB β (St.mk s.slots (deadL perm s.obs 0) s.n s.y s.stop).H) w1.heap.size L Ds (St.mk s.slots (deadL perm s.obs 0) s.n s.y s.stop) S β (fun b=>ownB β (St.mk s.slots (deadL perm s.obs 0) s.n s.y s.stop).H b∨S b∨b=L∨Ds b) (fun b=>ownB β (St.mk s.slots (deadL perm s.obs 0) s.n s.y s.stop).H b∨b=L) w1:=
  ⟨(hrel2.rebase (Nat.le_refl _) (fun _ _=>rfl) (fun _ _=>rfl)).1,fun u=>VL.ext hx2 _ _ (VL.ext hx1 _ _ (hi.sl u)),hi.len,fun k hk=>((hi.pin k hk).trans (hx1.hO k)).trans (hx2.hO k),fun _ hb=>hb,fun _ hb=>.inl hb,fun _ hb=>.inl hb,fun _=>Iff.rfl,fun _=>Iff.rfl,
    ⟨fun hb=>by have:=(hi.rel.sS L hb).1;omega,fun hb=>by have:=hown_lt L (hown2 L hb).1;omega⟩,
    fun D hD=>by
     obtain⟨d1,d2,d3⟩:=hDs D hD
     exact⟨fun hb=>by have:=(hi.rel.sS D hb).1;omega,fun hb=>by have:=hown_lt D (hown2 D hb).1;omega,d2,d3⟩,fun D hD=>lt_of_heap (hDs D hD).2.2,Nat.le_refl _⟩
 obtain⟨βT,core1,hownT⟩:=core0.tidy hn live
 generalize hown0:ownB β (St.mk s.slots (deadL perm s.obs 0) s.n s.y s.stop).H=own0 at core0 core1
 have htn:=tidy_n live (St.mk s.slots (deadL perm s.obs 0) s.n s.y s.stop)
 have hty:=tidy_y live (St.mk s.slots (deadL perm s.obs 0) s.n s.y s.stop)
 let J:Guest:=fun i st X W w'=>∃t S' β',Core π a S own0 w1.heap.size L Ds t S' β' X W w'∧t.n=s.n∧t.y=s.y∧t.stop=s.stop ∧
  ((st=false∧I i t∧w'.heap[L]? = some (.loop (rec .ready none)))∨(st=true∧∃e jc,Q e t∧jumpOf e=some jc∧w'.heap[L]? = some (.loop (rec .done (some jc)))))
 have hJst:J.stays:=by
  rintro i b X W wa wb ⟨t,S',β',c1,c2,c3,c4,c5⟩ _ _ _ hz hX
  have hXL:X L:=(c1.hX L).2 (.inr (.inr (.inl rfl)))
  refine⟨t,S',β',c1.stays hz hX,c2,c3,c4,?_⟩
  rw[hX L hXL]
  exact c5
 have hJr:J.rounds P L t.cnt t.arg S w1.heap.size:=by
  rintro i X W S2 wa us hlt ⟨t1,S',β',c1,c2,c3,c4,c5⟩ hz hus hS2
  rcases c5 with ⟨_,hI,hLr⟩ | ⟨hf,_⟩
  rotate_left
  · cases hf
  obtain⟨hlen,hcode⟩:=hround i t1 hlt hI
  obtain⟨f',tmps,asg,bod,y1,y2⟩:=round_ok (x0:=x0) (y0:=y0) hA (fun _ _ hk=>hk) c1 (by rw[hrec] at hLr;exact hLr) hus (fun b hb=>⟨(hS2 b hb).1,(hS2 b hb).2.1,(hS2 b hb).2.2⟩) hlen hcode
  refine⟨f',tmps,asg,bod,y1,y2.mono ?_⟩
  rintro e w' ⟨b,t2,S3,β3,ex,rfl,g1,g2,g3,g4,g5,g6⟩
  have hWX:∀g,W g→X g:=fun g hg=>by
   rcases (c1.hW g).1 hg with h | h
   · exact (c1.hX g).2 (.inl h)
   · exact (c1.hX g).2 (.inr (.inr (.inl h)))
  have hWL:W L:=(c1.hW L).2 (.inr rfl)
  have hLd:∀g,(g=L∨Ds g)→(X g∨S2 g∨wa.heap.size≤g)∧g<wa.heap.size:=by
   rintro g (rfl | hg)
   · exact⟨.inl (hWX _ hWL),lt_of_heap hLr⟩
   · exact⟨.inl ((c1.hX g).2 (.inr (.inr (.inr hg)))),lt_of_heap (c1.ds g hg).2.2.2⟩
  have hz2:=g2.size
  rcases g6 with ⟨rfl,rfl,g7⟩ | ⟨rfl,jc,g7,g8⟩
  · obtain⟨β4,g8,ho4⟩:=g1.tidy (c2.trans hn) live
    refine⟨true,_,_,rfl,⟨_,S3,β4,g8,(tidy_n _ _).trans c2,(tidy_y _ _).1.trans c3,(tidy_y _ _).2.trans c4,.inl ⟨rfl,g5,by rw[hrec];exact g7⟩⟩,g2,?_,?_⟩
    · rintro g (hg | rfl)
      · exact⟨.inl hg,g3 g (ho4 g hg)⟩
      · exact⟨.inr (.inr (.inl rfl)),.inl hWL⟩
    · rintro g (⟨k,hl,hg⟩ | hg | hg)
      · exact⟨(g3 g (ho4 g ⟨k,hl,hg⟩)).elim (fun h=>.inl (hWX g h)) (fun h=>.inr (.inr h)),(g8.rel.own k g hl hg).2.1⟩
      · exact g4 g hg
      · have:=hLd g hg
        exact⟨this.1,by omega⟩
  · refine⟨false,_,_,rfl,⟨_,S3,β3,g1,c2,c3,c4,.inr ⟨rfl,ex,jc,?_,g7,by rw[hrec];exact g8⟩⟩,g2,?_,?_⟩
    · cases ex with
      | normal=>cases g7
      | panic x=>cases g7
      | ret=>exact g5
      | exit id=>exact g5
    · rintro g (hg | rfl)
      · exact⟨.inl hg,g3 g hg⟩
      · exact⟨.inr (.inr (.inl rfl)),.inl hWL⟩
    · rintro g (⟨k,hl,hg⟩ | hg | hg)
      · exact⟨(g3 g ⟨k,hl,hg⟩).elim (fun h=>.inl (hWX g h)) (fun h=>.inr (.inr h)),(g1.rel.own k g hl hg).2.1⟩
      · exact g4 g hg
      · have:=hLd g hg
        exact⟨this.1,by omega⟩
 have hhand:=hrel1.hand (S1:=S) hnd (fun _ hb=>hb) (fun b hb=>.inl hb)
 have hva:=VLs.ren (perm:=perm) _ _ (VLs.ext hx1 _ _ v1)
 have hvc:=VLs.ren (perm:=perm) _ _ (VLs.ext hx1 _ _ v2)
 rw[←newsH_ren] at hva hvc
 have hMof:∀b,Mof (renC β perm) (perm.map fun k=>(s.H k).ren perm) b→∃k,k∈perm∧(s.H k).live=true∧(β k).has b:=by
  rintro b ⟨i,hl,hg⟩
  rw[newsH_ren] at hl
  unfold renH at hl
  unfold renC at hg
  cases e:perm[i]? with
  | none=>rw[e] at hl;cases hl
  | some k=>rw[e] at hl hg;exact⟨k,List.mem_of_getElem? e,hlive0 k (List.mem_of_getElem? e),hg⟩
 have hown1:∀b,own0 b→ownB β s.H b∧∀k,k∈perm→¬(β k).has b:=fun b hb=>hown2 b (by rw[hown0];exact hb)
 have hownT':∀b,ownB βT ((St.mk s.slots (deadL perm s.obs 0) s.n s.y s.stop).tidy live).H b→own0 b:=fun b hb=>by rw[←hown0];exact hownT b hb
 have hSown:∀b,ownB β s.H b→¬S b:=fun b ⟨k,hl,hg⟩=>(hi.rel.own k b hl hg).2.2
 have hcalls:=hrun S (renC β perm) w1 vp vq L J _ _ hhand hva hvc hJst hJr ⟨_,S,βT,core1,htn,hty.1,hty.2,.inl ⟨rfl,hI0,by rw[hrec];exact q6⟩⟩ (by
  rintro b (hb | hb | hb | hb)
  · obtain⟨h1,h2⟩:=hown1 b (hownT' b hb)
    refine⟨by have:=hown_lt b h1;omega,fun hm => ?_⟩
    obtain⟨k,hk,_,hg⟩:=hMof b hm
    exact h2 k hk hg
  · refine⟨by have:=(hi.rel.sS b hb).1;omega,fun hm => ?_⟩
    obtain⟨k,hk,hl,hg⟩:=hMof b hm
    exact hSown b ⟨k,hl,hg⟩ hb
  · subst hb
    refine⟨lt_of_heap q6,fun hm => ?_⟩
    obtain⟨k,hk,hl,hg⟩:=hMof b hm
    have:=hown_lt b ⟨k,hl,hg⟩
    omega
  · refine⟨lt_of_heap (hDs b hb).2.2,fun hm => ?_⟩
    obtain⟨k,hk,hl,hg⟩:=hMof b hm
    have:=hown_lt b ⟨k,hl,hg⟩
    have:=(hDs b hb).1
    omega) (by
  rintro b (hb | rfl)
  · exact⟨.inl hb,hSown b (hown1 b (hownT' b hb)).1⟩
  · exact⟨.inr (.inr (.inl rfl)),fun hb=>by have:=(hi.rel.sS _ hb).1;omega⟩)
 refine⟨L,mark,w1,{target:=.fn (.func g) vq.toArray,args:=vp.toArray ++ #[.func (.yield L) #[] #[]]},w1,g,(vp++[Value.func (.yield L) #[] #[]]++vq).toArray,w1,henter,?_,fun _ _=>trivial,?_,fun hh=>by simp[Fence.wide] at hh,?_⟩
 · simp only[resolve,e1,Deferred.ofValue]
   simp[Act.eval]
 · have ea:(vp.toArray ++ #[.func (.yield L) #[] #[]]++vq.toArray)=(vp++[Value.func (.yield L) #[] #[]]++vq).toArray:=by
    apply Array.toList_inj.1
    simp
   simp only[invoke,ea]
   exact run_enter k1 k2 k3 _
 · refine callsIn_wide.2 (Calls.mono hcalls ?_)
   rintro e w2 ⟨u,i,st,X',W',rfl,⟨t1,S',β',c1,c2,c3,c4,c5⟩,hst,hfr⟩
   have hLw2:∃r,w2.heap[L]? = some (.loop r)∧r.state≠.busy:=by
    rcases c5 with ⟨_,_,h⟩ | ⟨_,_,_,_,_,h⟩
    · exact⟨_,h,by rw[hrec];simp⟩
    · exact⟨_,h,by rw[hrec];simp⟩
   obtain⟨r,hr,hrb⟩:=hLw2
   obtain⟨w4,hw4⟩:∃w4,w2.putObj L (.loop {r with state:=.exhausted})=w4:=⟨_,rfl⟩
   have hz4:w4.heap.size=w2.heap.size:=by rw[←hw4];exact World.putObj_size
   have ho4:∀b,b≠L→w4.heap[b]? = w2.heap[b]? := fun b hb=>by rw[←hw4];exact World.putObj_heap_other hb
   have hnW:∀b,b<w.heap.size→(∀k,(s.H k).live=true→¬(β k).has b)→w4.heap[b]? = w.heap[b]? := by
    intro b hb hno
    have hbL:b≠L:=by omega
    rw[ho4 b hbL,hfr.block b (by omega) ?_,q5 b hb]
    rintro ((hb' | hb') | hm)
    · obtain⟨⟨k,hl,hg⟩,_⟩:=hown1 b (hownT' b hb')
      exact hno k hl hg
    · exact hbL hb'
    · obtain⟨k,_,hl,hg⟩:=hMof b hm
      exact hno k hl hg
   have hxe:Ext S' w2 β' t1.H (fun b=>S' b∨Ds b) w4 β' t1.H:=⟨fun b hb=>⟨.inl hb,ho4 b fun e=>c1.lS.1 (e▸hb)⟩,fun _=>ObExt.refl _ _⟩
   have hs1:=c1.sz
   have inv4:Inv M S0 w0 π t1.slots t1.H (fun b=>S' b∨Ds b) β' {a with defers:=mark++a.defers} w4:=by
    refine⟨⟨⟨?_,?_,?_,?_,fun b hb hm => ?_,?_⟩,fun b hb=>.inl (c1.s1 b (hi.rel.s0 b hb)),fun b hb => ?_,fun k g' hl hg=>⟨?_,by have:=(c1.rel.own k g' hl hg).2.1;omega,?_⟩,c1.rel.dis,fun k=>ob_live hxe (c1.rel.ob k) rfl rfl fun g' hl hg=>ho4 g' fun e=>c1.lS.2 ⟨k,hl,e▸hg⟩,c1.rel.gl.mono hxe.hS⟩,c1.len,fun u=>VL.ext hxe _ _ (c1.sl u),⟨fun hh => ?_,?_⟩,c1.pin⟩
    · rw[←hw4];exact (hfr.os.trans q1).trans hi.rel.fr.os
    · rw[←hw4];exact (hfr.tape.trans q2).trans hi.rel.fr.tape
    · rw[←hw4];exact (hfr.output.trans q3).trans hi.rel.fr.output
    · have:=hi.rel.fr.size;omega
    · rw[hnW b (by have:=hi.rel.fr.size;omega) (fun k hl hg => ?_)]
      · exact hi.rel.fr.block b hb hm
      · rcases (hi.rel.own k b hl hg).1 with h | h
        · exact hm h
        · omega
    · rw[←hw4];exact Nat.le_trans hi.rel.fr.drawn (Nat.le_trans hd hfr.drawn)
    · rcases hb with hb | hb
      · refine⟨by have:=(c1.rel.sS b hb).1;omega,?_⟩
        rcases c1.s2 b hb with h | h
        · exact (hi.rel.sS b h).2
        · exact .inr (by have:=hi.rel.fr.size;omega)
      · exact⟨by have:=lt_of_heap (c1.ds b hb).2.2.2;omega,.inr (by have:=(hDs b hb).1;have:=hi.rel.fr.size;omega)⟩
    · rcases c1.own g' ⟨k,hl,hg⟩ with h | h
      · obtain⟨⟨k',hl',hg'⟩,_⟩:=hown1 g' h
        exact (hi.rel.own k' g' hl' hg').1
      · exact .inr (by have:=hi.rel.fr.size;omega)
    · rintro (hb | hb)
      · exact (c1.rel.own k g' hl hg).2.2 hb
      · exact (c1.ds g' hb).2.1 ⟨k,hl,hg⟩
    · rcases hr1 hh with h | h
      · rw[q9 h,hi.nod.1 hh];rfl
      · rw[hit0] at h;cases h
    · have hold:DefsOk S0 (fun b=>S' b∨Ds b) w4 a.defers:=DefsOk.mono (fun b hb=>⟨.inl (c1.s1 b hb),hnW b (hi.rel.sS b hb).1 (fun k hl hg=>hSown b ⟨k,hl,hg⟩ hb)⟩) _ hi.nod.2
      rcases q8 with rfl | ⟨D,rfl,r1,r2,r3⟩
      · exact hold
      · have hD:Ds D:=⟨_,List.mem_singleton.2 rfl,rfl⟩
        refine⟨⟨D,rfl,fun hb => ?_,.inr hD,(ho4 D r2).trans (c1.ds D hD).2.2.2,fun d' hd' e => ?_⟩,hold⟩
        · have:=(hi.rel.sS D (hi.rel.s0 D hb)).1;omega
        · have:∀ds,DefsOk S0 S w ds→∀d'∈ds,d'.target=.collected D→False:=by
           intro ds
           induction ds with
           | nil=>intro _ d' hd';cases hd'
           | cons d ds ih=>
            rintro ⟨⟨D',rfl,_,h2,_⟩,h4⟩ d' hd' e
            rcases List.mem_cons.1 hd' with rfl | hd'
            · cases e
              have:=(hi.rel.sS D h2).1;omega
            · exact ih h4 d' hd' e
          exact this _ hi.nod.2 d' hd' e
   have hbt:B t1.y t1.stop M S0 w0:=by rw[c3,c4];exact hb
   refine⟨_,w4,by have:=run_endLoop (P:=P) hr hrb;rw[hw4] at this;exact this,?_⟩
   rcases c5 with ⟨rfl,hI,h⟩ | ⟨rfl,e,jc,hQe,hj,h⟩
   · rw[h] at hr
     cases hr
     rw[hrec]
     rcases hst with h' | rfl
     · cases h'
     · exact hq .normal t1 _ β' _ w4 ⟨M,S0,w0,hbt,inv4⟩ (c2.trans hn) (hend t1 hI)
   · rw[h] at hr
     cases hr
     rw[hrec]
     exact run_code_jump hj (hq e t1 _ β' _ w4 ⟨M,S0,w0,hbt,inv4⟩ (c2.trans hn) hQe)
theorem code_sound (hT:TabOk P T) (hm:P.follows .mixedOrders=true):∀(c:Code) (env:Env),EnvOk P env→CodeOk P T env c
 | .skip,env,he,ρ,B,π,hY,hR,h1,h2,L,s,Q,Q',S,β,a,w,hi,hn,h,hq=>wpIn_skip (hq .normal s S β a w hi hn h)
 | .region _ ops draw,env,he,ρ,B,π,hY,hR,h1,h2,L,s,Q,Q',S,β,a,w,hi,hn,h,hq=>region_sound he hT hm hY hi h (fun s' S' β' a' w' g1 g3 g2=>hq .normal s' S' β' a' w' g1 (g3.trans hn) g2) (fun x s' S' β' a' w' g1 g3 g2=>hq (.panic x) s' S' β' a' w' g1 (g3.trans hn) g2)
 | .seq x y,env,he,ρ,B,π,hY,hR,h1,h2,L,s,Q,Q',S,β,a,w,hi,hn,h,hq=>by
  refine wpIn_seq (code_sound hT hm x env he ρ B π hY hR h1 h2 _ s _ _ S β a w hi hn h ?_)
  intro e s' S' β' a' w' hi' hn' hh
  cases e with
  | normal=>
   obtain⟨M',S0',w0',hb',hi'⟩:=hi'
   obtain⟨β2,hi2⟩:=tidyIf_sound (cutAt env y) ((expo y).1++L) hn' hi'
   simp only[thenA] at hh
   rw[goOn_eq] at hh
   refine code_sound hT hm y env he ρ B π hY hR h1 h2 L _ Q Q' S' β2 a' w' ⟨M',S0',w0',?_,hi2⟩ ?_ hh hq
   · cases cutAt env y
     · exact hb'
     · rw[cond_true,(tidy_y _ _).1,(tidy_y _ _).2];exact hb'
   · cases cutAt env y
     · exact hn'
     · exact (tidy_n _ _).trans hn'
  | exit i=>exact hq (.exit i) s' S' β' a' w' hi' hn' hh
  | ret=>exact hq .ret s' S' β' a' w' hi' hn' hh
  | panic v=>exact hq (.panic v) s' S' β' a' w' hi' hn' hh
 | .cond c x y,env,he,ρ,B,π,hY,hR,h1,h2,L,s,Q,Q',S,β,a,w,⟨M,S0,w0,hb0,hi⟩,hn,h,hq=>by
  simp only[codeA,codeG] at h
  split at h
  · rename_i b hb
    have hv:=ev_of hi.rel.gl hi.sl c
    rw[hb] at hv
    have hv:=VL.bool hv
    have hi':InvB B π (condSt c b s) S β a w:=⟨M,S0,w0,by cases c<;>exact hb0,cond_inv hi hb⟩
    have hn':∀b,(condSt c b s).n=π.n:=fun b=>by cases c<;>exact hn
    cases b with
    | true=>exact wpIn_cond_true hv (code_sound hT hm x env he ρ B π hY hR h1 h2 L _ Q Q' S β a w hi' (hn' _) h hq)
    | false=>exact wpIn_cond_false hv (code_sound hT hm y env he ρ B π hY hR h1 h2 L _ Q Q' S β a w hi' (hn' _) h hq)
  · cases h
 | .block id c,env,he,ρ,B,π,hY,hR,h1,h2,L,s,Q,Q',S,β,a,w,hi,hn,h,hq=>by
  refine wpIn_block (code_sound hT hm c env he ρ B π hY hR h1 h2 L s _ _ S β a w hi hn h ?_)
  intro e s' S' β' a' w' hi' hn' hh
  cases e with
  | normal=>exact hq .normal s' S' β' a' w' hi' hn' hh
  | exit j=>
   simp only[blockA] at hh
   show Exit.inBlock id Q' (.exit j) a' w'
   simp only[Exit.inBlock]
   cases e:j==id with
   | true=>
    rw[e] at hh
    rw[if_pos (by simpa using e)]
    exact hq .normal s' S' β' a' w' hi' hn' hh
   | false=>
    rw[e] at hh
    rw[if_neg (by simpa using e)]
    exact hq (.exit j) s' S' β' a' w' hi' hn' hh
  | ret=>exact hq .ret s' S' β' a' w' hi' hn' hh
  | panic v=>exact hq (.panic v) s' S' β' a' w' hi' hn' hh
 | .exit id,env,he,ρ,B,π,hY,hR,h1,h2,L,s,Q,Q',S,β,a,w,hi,hn,h,hq=>wpIn_exit (hq (.exit id) s S β a w hi hn h)
 | .ret,env,he,ρ,B,π,hY,hR,h1,h2,L,s,Q,Q',S,β,a,w,hi,hn,h,hq=>wpIn_ret (hq .ret s S β a w hi hn h)
 | .loop c,env,he,ρ,B,π,hY,hR,hr1,hr2,L,s,Q,Q',S,β,a,w,⟨M0,S00,w00,hb0,hi⟩,hsn,h,hq=>by
  obtain⟨I,n,h1,h2⟩:=h
  let J:Nat→Act→World→Prop:=fun n a w=>∃s S β,I n s∧s.n=π.n∧InvB B π s S β a w
  have hleast:∀a w,(∃n,J n a w)→∃n,J n a w∧∀m,J m a w→n≤m:=by
   intro a w ⟨n,hn⟩
   induction n using Nat.strongRecOn with
   | _ n ih=>
    by_cases hh:∃m,m<n∧J m a w
    · obtain⟨m,hm,hj⟩:=hh;exact ih m hm hj
    · exact⟨n,hn,fun m hj=>Nat.not_lt.1 fun hlt=>hh ⟨m,hlt,hj⟩⟩
  classical
  let μ:Act→World→Nat:=fun a w=>if h:∃n,J n a w then (hleast a w h).choose else 0
  have hμ:∀a w,(∃n,J n a w)→J (μ a w) a w∧∀m,J m a w→μ a w≤m:=by
   intro a w h
   simp only[μ,dif_pos h]
   exact (hleast a w h).choose_spec
  obtain⟨β1,hi1⟩:=tidy_sound ((expo c).1++L) hsn hi
  refine wpIn_loop (fun a w=>∃n,J n a w) μ ⟨n,_,S,β1,h1,(tidy_n _ _).trans hsn,M0,S00,w00,by rw[(tidy_y _ _).1,(tidy_y _ _).2];exact hb0,hi1⟩ ?_
  intro a' w' hex'
  obtain⟨⟨s',S',β',g1,g0,g2⟩,g3⟩:=hμ a' w' hex'
  refine code_sound hT hm c env he ρ B π hY hR hr1 hr2 ((expo c).1++L) s' _ _ S' β' a' w' g2 g0 (h2 _ s' g1) ?_
  rintro e s2 S2 β2 a2 w2 hi2 hn2 hh
  cases e with
  | normal=>
   obtain⟨m,hlt,hI⟩:=hh
   obtain⟨M2,S02,w02,hb2,hi2⟩:=hi2
   obtain⟨β3,hi3⟩:=tidy_sound ((expo c).1++L) hn2 hi2
   have hJ:J m a2 w2:=⟨_,S2,β3,hI,(tidy_n _ _).trans hn2,M2,S02,w02,by rw[(tidy_y _ _).1,(tidy_y _ _).2];exact hb2,hi3⟩
   refine⟨⟨m,hJ⟩,?_⟩
   have:=(hμ a2 w2 ⟨m,hJ⟩).2 m hJ
   omega
  | exit i=>exact hq (.exit i) s2 S2 β2 a2 w2 hi2 hn2 hh
  | ret=>exact hq .ret s2 S2 β2 a2 w2 hi2 hn2 hh
  | panic v=>exact hq (.panic v) s2 S2 β2 a2 w2 hi2 hn2 hh
 | .rangeFunc f ps x y,env,he,ρ,B,π,hY,hR,h1,h2,L,s,Q,Q',S,β,a,w,hi,hn,h,hq=>
  range_sound (x0:=x) (y0:=y) he (fun c hc=>by
   rcases hc with rfl | rfl
   · exact code_sound hT hm _ env.noY he.noY
   · exact code_sound hT hm _ env.noY he.noY) ρ B π hY hR h1 h2 L s Q Q' S β a w hi hn h hq
 | .scope _,_,_,_,_,_,_,_,_,_,_,_,_,_,_,_,_,_,_,_,h,_=>h.elim
 | .label _,_,_,_,_,_,_,_,_,_,_,_,_,_,_,_,_,_,_,_,h,_=>h.elim
 | .goto _,_,_,_,_,_,_,_,_,_,_,_,_,_,_,_,_,_,_,_,h,_=>h.elim
 | .refuse _,_,_,_,_,_,_,_,_,_,_,_,_,_,_,_,_,_,_,_,h,_=>h.elim
end
end Go.Proofs.YtkpjcmiijlpcaaaDoor.Aw
namespace Go.Proofs.YtkpjcmiijlpcaaaDoor.Aw
open Go
def resA (T:Tab) (s:St):List ResultVar→Option (List AV)
 | []=>some []
 | .tmp t::l=>(resA T s l).map fun vs=>s.slots.getD t .undef::vs
 | .cell x t::l=>match s.slots.getD x .undef with
  | .ptr k off=>match s.H k with
   | .cells _ cs=>match aggOf (T.at_ t) (cut cs off (T.at_ t).size) with
    | some v=>(resA T s l).map fun vs=>v::vs
    | none=>none
   | _=>none
  | _=>none
def resTmps (fn:Func):List Nat:=fn.results.toList.map fun
 | .tmp t=>t
 | .cell x _=>x
def oneOf:List AV→AV
 | [v]=>v
 | vs=>.tuple (AV.ofList vs)
def endA (T:Tab) (fn:Func) (R:AV→List Ob→Prop):Ex→St→Prop
 | .exit _,_=>False
 | .panic _,_=>False
 | .normal,s=>match resA T s fn.results.toList with
  | some vs=>R (oneOf ((St.mk vs s.obs s.n 0 false).tidy (List.range vs.length)).slots) ((St.mk vs s.obs s.n 0 false).tidy (List.range vs.length)).obs
  | none=>False
 | .ret,s=>match resA T s fn.results.toList with
  | some vs=>R (oneOf ((St.mk vs s.obs s.n 0 false).tidy (List.range vs.length)).slots) ((St.mk vs s.obs s.n 0 false).tidy (List.range vs.length)).obs
  | none=>False
def endP (T:Tab) (fn:Func) (R:AV→List Ob→Prop) (RP:Value→List Ob→Prop):Ex→St→Prop
 | .panic x,s=>RP x ((St.mk [] s.obs s.n 0 false).tidy []).obs
 | .exit _,_=>False
 | .normal,s=>endA T fn R .normal s
 | .ret,s=>endA T fn R .ret s
def startA (fn:Func) (args:List AV):St:=⟨args++List.replicate (fn.ntmps-args.length) .undef,[],0,0,false⟩
def startB (fn:Func) (args:List AV) (obs:List Ob):St:=⟨args++List.replicate (fn.ntmps-args.length) .undef,obs,obs.length,0,false⟩
def fnA (T:Tab) (env:Env) (fn:Func) (c:Code) (args:List AV) (R:AV→List Ob→Prop):Prop:=
 codeA T env c (resTmps fn) (startA fn args) (endA T fn R)
def fnB (T:Tab) (env:Env) (fn:Func) (c:Code) (args:List AV) (obs:List Ob) (R:AV→List Ob→Prop):Prop:=
 codeA T env c (resTmps fn) (startB fn args obs) (endA T fn R)
def Env.it (env:Env) (l cnt:Nat) (arg:Nat→List AV):Env:={env with isIt:=true,yl:=l,ycnt:=cnt,yarg:=arg}
section
variable {P:Program} {T:Tab} {env:Env} {M S0:Nat→Prop} {w0:World} {π:Pin} {S:Nat→Prop} {β:Nat→Cr} {H:Nat→Ob} {w:World} {a:Act} {sl:List AV}
def resOf (tmps:Array Value):ResultVar→Sem Value
 | .tmp t=>pure (tmps.getD t undef)
 | .cell x t=>do loadVar t (←asAddr (tmps.getD x undef))
theorem results_eq (fn:Func) (tmps:Array Value):results fn tmps=(do
 let vs ←fn.results.mapM (resOf tmps)
 pure (if h:vs.size=1 then vs[0] else .tuple vs)):=by
 unfold results
 congr 2
theorem res_of (hT:TabOk P T) {s:St} (h:Inv M S0 w0 π s.slots s.H S β a w):∀(l:List ResultVar) (vs:List AV),resA T s l=some vs→∃us:List Value,(l.mapM (resOf a.tmps)).run P w=.ok us w∧VLs S w β s.H vs us
 | [],vs,hr=>by
  simp only[resA,Option.some.injEq] at hr
  subst hr
  exact⟨[],rfl,rfl⟩
 | .tmp t::l,vs,hr=>by
  simp only[resA] at hr
  obtain⟨ws,h1,h2⟩:=Option.map_eq_some_iff.1 hr
  obtain⟨us,h3,h4⟩:=res_of hT h l ws h1
  subst h2
  refine⟨a.tmps.getD t undef::us,?_,_,_,rfl,h.sl t,h4⟩
  simp only[List.mapM_cons,resOf,pure_bind,Sem.run_bind,h3,Result.andThen_ok,Sem.run_pure]
 | .cell x t::l,vs,hr=>by
  simp only[resA] at hr
  split at hr
  rotate_left
  · cases hr
  rename_i k off hx
  split at hr
  rotate_left
  · cases hr
  rename_i e cs hk
  split at hr
  rotate_left
  · cases hr
  rename_i v hv
  obtain⟨ws,h1,h2⟩:=Option.map_eq_some_iff.1 hr
  obtain⟨us,h3,h4⟩:=res_of hT h l ws h1
  subst h2
  have hp:=h.sl x
  rw[hx] at hp
  obtain⟨u0,q1,q2⟩:=hp
  simp only[leaf,hk] at q2
  obtain⟨g,hg,hu⟩:=q2
  have hob:=h.rel.ob k
  rw[hk] at hob
  obtain⟨g',vs',r1,r2,r3⟩:=hob
  rw[hg] at r1
  cases r1
  obtain⟨u,hu1,hu2⟩:=load_of (ad:=⟨g,off,none⟩) hT (VLs.take (T.at_ t).size _ _ (VLs.drop off _ _ r3)) hv (by
   intro j u hj
   rw[add_lit,cell_of_row w g (off+j) _ _ _ r2]
   rw[List.getElem?_take] at hj
   split at hj
   · simpa using hj
   · cases hj)
  refine⟨u::us,?_,_,_,rfl,hu2,h4⟩
  have hu:a.tmps.getD x undef=.pointer (some ⟨g,off,none⟩):=by
   have q1:=List.cons.inj q1
   exact q1.1.trans hu
  simp only[List.mapM_cons,resOf,hu,asAddr,Sem.run_bind,Sem.run_pure,Result.andThen_ok,pure_bind,hu1,h3]
theorem oneOf_of {vs:List AV} {us:List Value} (h:VLs S w β H vs us):VL S w β H (oneOf vs) [if h:us.toArray.size=1 then us.toArray[0] else .tuple us.toArray]:=by
 have hl:=VLs.length _ _ h
 match vs,us,h,hl with
 | [],[],_,_=>exact⟨[],rfl,rfl⟩
 | [v],[u],h,_=>obtain⟨u',r,e,h1,_⟩:=h;cases e;exact h1
 | v::v'::l,u::u'::l',h,_=>
  refine⟨u::u'::l',?_,VLs.of_list _ _ h⟩
  simp
theorem vls_of:∀(vs:List AV) (us:List Value),vs.length=us.length→(∀t,VL S w β H (vs.getD t .undef) [us.toArray.getD t undef])→VLs S w β H vs us
 | [],[],_,_=>rfl
 | v::vs,u::us,hl,h=>by
  refine⟨u,us,rfl,by simpa using h 0,vls_of vs us (by simpa using hl) fun t => ?_⟩
  have:=h (t+1)
  simpa using this
section
variable {D:Nat} {w1:World} (hc:∀ad:Addr,ad.block=D→w.cell? ad=none) (ho:∀b,b≠D→w1.heap[b]? = w.heap[b]?)
include hc ho
theorem Rd.cut {x:Option Addr} {cs:List Value} (h:Rd S w x cs):Rd (fun b=>S b∧b≠D) w1 x cs:=by
 intro j u hj
 obtain⟨ad,e,hs,hcell⟩:=h j u hj
 have hb:(ad.add j).block=ad.block:=by unfold Addr.add;split<;>rfl
 have hne:ad.block≠D:=by
  intro hd
  rw[hc (ad.add j) (hb.trans hd)] at hcell
  cases hcell
 refine⟨ad,e,⟨hs,hne⟩,?_⟩
 rw[World.cell?_of_block (w:=w) (by rw[hb];exact ho _ hne)]
 exact hcell
theorem DR.cut:∀(t:Ty) (x:t.den) (cs:List Value),DR S w t x cs→DR (fun b=>S b∧b≠D) w1 t x cs
 | .int _,_,_,h=>h
 | .bool,_,_,h=>h
 | .str,_,_,h=>h
 | .list _ t,_,_,⟨a,n,c,es,e1,e2,e3,e4,e5,e6⟩=>⟨a,n,c,es,e1,e2,e3,Cat.mono (DR.cut t) _ _ e4,e5.cut hc ho,e6⟩
 | .pair a b,_,_,⟨c1,c2,e,h1,h2⟩=>⟨c1,c2,e,DR.cut a _ _ h1,DR.cut b _ _ h2⟩
 | .unit,_,_,h=>h
 | .ol _ t,_,_,⟨a,n,c,es,e1,e2,e3,e4,e5,e6⟩=>⟨a,n,c,es,e1,e2,e3,Cat.mono (DR.cut t) _ _ e4,e5.cut hc ho,e6⟩
theorem DRo.cut:∀(t:Ty) (x:t.den) (cs:List Value) (F:List Nat),(∀b∈F,b≠D)→DRo S w t x cs F→DRo (fun b=>S b∧b≠D) w1 t x cs F
 | .int _,_,_,_,_,h=>⟨DR.cut hc ho _ _ _ h.1,h.2⟩
 | .bool,_,_,_,_,h=>⟨DR.cut hc ho _ _ _ h.1,h.2⟩
 | .str,_,_,_,_,h=>⟨DR.cut hc ho _ _ _ h.1,h.2⟩
 | .list _ _,_,_,_,_,h=>⟨DR.cut hc ho _ _ _ h.1,h.2⟩
 | .unit,_,_,_,_,h=>⟨DR.cut hc ho _ _ _ h.1,h.2⟩
 | .pair a b,_,_,_,hF,⟨c1,c2,F1,F2,e,e2,h1,h2⟩=>⟨c1,c2,F1,F2,e,e2,DRo.cut a _ _ _ (fun b hb=>hF b (by rw[e2];simp[hb])) h1,DRo.cut b _ _ _ (fun b hb=>hF b (by rw[e2];simp[hb])) h2⟩
 | .ol _ t,_,_,_,hF,h=>by
  rcases h with h | ⟨g,cap,cur,e1,e2,e3,e4,e5,e6,e7⟩
  · exact .inl h
  · exact .inr ⟨g,cap,cur,e1,e2,(ho g (hF g (by rw[e2];simp))).trans e3,e4,e5,e6,Cat.mono (DR.cut hc ho t) _ _ e7⟩
theorem CatO.cut (t:Ty):∀(xs:List t.den) (cs:List Value) (F:List Nat),(∀b∈F,b≠D)→CatO S w t xs cs F→CatO (fun b=>S b∧b≠D) w1 t xs cs F
 | [],_,_,_,h=>h
 | _::xs,_,_,hF,⟨c1,c2,F1,F2,e,e2,h1,h2⟩=>⟨c1,c2,F1,F2,e,e2,DRo.cut hc ho t _ _ _ (fun b hb=>hF b (by rw[e2];simp[hb])) h1,CatO.cut t xs _ _ (fun b hb=>hF b (by rw[e2];simp[hb])) h2⟩
theorem GL.cut (h:GL S w):GL (fun b=>S b∧b≠D) w1:=fun g=>by
 have h:=h g
 rcases globT_cases g with e | ⟨_,t,_,_,_,e⟩<;>rw[e] at h ⊢
 · trivial
 · obtain⟨h1,h2,ad,es,h3,h4,h5⟩:=h
   exact⟨h1,h2,ad,es,Cat.mono (DR.cut hc ho t) _ _ h3,h4.cut hc ho,h5⟩
theorem VL.cut:∀(x:AV) (vs:List Value),VL S w β H x vs→VL (fun b=>S b∧b≠D) w1 β H x vs
 | .list e t xs,vs,⟨v,e1,hv⟩=>⟨v,e1,DR.cut hc ho (.list e t) xs [v] hv⟩
 | .tl e t xs,vs,⟨v,e1,hv,hz⟩=>⟨v,e1,DR.cut hc ho (.list e t) xs [v] hv,hz⟩
 | .lptr e t xs i off,vs,⟨v,e1,h0,hi,ad,es,h1,h2,hv⟩=>⟨v,e1,h0,hi,ad,es,Cat.mono (DR.cut hc ho t) _ _ h1,h2.cut hc ho,hv⟩
 | .agg c,vs,⟨cs,e,h⟩=>⟨cs,e,VL.cut c cs h⟩
 | .tuple c,vs,⟨cs,e,h⟩=>⟨cs,e,VL.cut c cs h⟩
 | .fn f x y,vs,⟨p,q,e,h1,h2⟩=>⟨p,q,e,VL.cut x p h1,VL.cut y q h2⟩
 | .iface t x,vs,⟨v,e,h1⟩=>⟨v,e,VL.cut x [v] h1⟩
 | .cons x y,vs,⟨v,r,e,h1,h2⟩=>⟨v,r,e,VL.cut x [v] h1,VL.cut y r h2⟩
 | .ptr _ _,vs,h=>h
 | .row _,vs,h=>h
 | .rptr _ _ _,vs,h=>h
 | .view _ _ _ _ _,vs,h=>h
 | .prow _,vs,h=>h
 | .pptr _ _,vs,h=>h
 | .mp _,vs,h=>h
 | .nptr _,vs,h=>h
 | .itr _,vs,h=>h
 | .emp _ _,vs,h=>h
 | .undef,vs,h=>h
 | .int _ _,vs,h=>h
 | .bool _,vs,h=>h
 | .str _,vs,h=>h
 | .nilp,vs,h=>h
 | .nilf,vs,h=>h
 | .nili,vs,h=>h
 | .nil0,vs,h=>h
 | .nils _ _,vs,h=>h
 | .nl,vs,h=>h
theorem VLs.cut:∀(l:List AV) (vs:List Value),VLs S w β H l vs→VLs (fun b=>S b∧b≠D) w1 β H l vs
 | [],_,h=>h
 | x::l,vs,⟨v,r,e,h1,h2⟩=>⟨v,r,e,VL.cut hc ho x [v] h1,VLs.cut l r h2⟩
theorem ObR.cut (c:Cr) (ob:Ob) (hg:∀g,c.has g→ob.live=true→g≠D) (h:ObR S w β H c ob):ObR (fun b=>S b∧b≠D) w1 β H c ob:=by
 cases ob with
 | none=>trivial
 | dead=>trivial
 | cells e cs=>obtain⟨g,vs,e1,e2,e3⟩:=h;exact⟨g,vs,e1,(ho g (hg g (.inl e1) rfl)).trans e2,VLs.cut hc ho cs vs e3⟩
 | row e t xs=>
  rcases h with h | ⟨g,cur,e1,e2,e3,e4,e5,e6⟩
  · exact .inl h
  · exact .inr ⟨g,cur,e1,(ho g (hg g (.inl e1) rfl)).trans e2,e3,e4,e5,Cat.mono (DR.cut hc ho t) _ _ e6⟩
 | prow e xs=>
  rcases h with h | ⟨g,cur,e1,e2,e3,e4,e5,e6⟩
  · exact .inl h
  · exact .inr ⟨g,cur,e1,(ho g (hg g (.inl e1) rfl)).trans e2,e3,e4,e5,VLs.cut hc ho xs _ e6⟩
 | map ag t es=>
  obtain⟨g,l,e1,e2,e3,e4⟩:=h
  exact⟨g,l,e1,(ho g (hg g (.inl e1) rfl)).trans e2,e3,fun i p hp=>by obtain⟨cs,q1,q2⟩:=e4 i p hp;exact⟨cs,DR.cut hc ho t _ _ q1,q2⟩⟩
 | mit m n seen cur=>
  obtain⟨g,gm,st,e1,e2,e3,e4⟩:=h
  exact⟨g,gm,st,e1,(ho g (hg g (.inl e1) rfl)).trans e2,e3,e4⟩
 | orow e t xs=>
  rcases h with h | ⟨g,cur,e1,e2,e3,e4,e5,e6,e7⟩
  · exact .inl h
  · exact .inr ⟨g,cur,e1,(ho g (hg g (.inl e1) rfl)).trans e2,e3,e4,e5,CatO.cut hc ho t _ _ _ (fun b hb=>hg b (.inr hb) rfl) e6,e7⟩
 | hrow e t xs i off=>
  obtain⟨g,cur,e1,e2,e3,e4,e5,e6,e7,e8,e9,e10⟩:=h
  exact⟨g,cur,e1,(ho g (hg g (.inl e1) rfl)).trans e2,e3,e4,e5,e6,e7,e8,CatO.cut hc ho t _ _ _ (fun b hb=>hg b (.inr hb) rfl) e9,e10⟩
end
theorem marks_of (tmps:Array Value):∀(ds:List Deferred) (S:Nat→Prop) (w:World),Rel M S0 w0 S β H w→(∀t,VL S w β H (sl.getD t .undef) [tmps.getD t undef])→DefsOk S0 S w ds →
 ∃S' w',Rel M S0 w0 S' β H w'∧(∀t,VL S' w' β H (sl.getD t .undef) [tmps.getD t undef])∧∀fn R' u,u≠.run→LeavesInM (Wd none) 0 P fn tmps R' [] u w'→LeavesInM (Wd none) 0 P fn tmps R' ds u w
 | [],S,w,hr,hs,_=>⟨S,w,hr,hs,fun _ _ _ _ h=>h⟩
 | d::ds,S,w,hr,hs,⟨⟨D,e,h0,h1,h2,h3⟩,h4⟩=>by
  subst e
  have hlt:D<w.heap.size:=(Array.getElem?_eq_some_iff.1 h2).1
  have hc:∀ad:Addr,ad.block=D→w.cell? ad=none:=by
   intro ad e
   unfold World.cell?
   rw[e,h2]
  have ho:∀b,b≠D→(w.putObj D (.deferred none)).heap[b]? = w.heap[b]? := fun b hb=>World.putObj_heap_other hb
  have hD0:w0.heap.size≤D:=by
   rcases (hr.sS D h1).2 with h | h
   · exact absurd h h0
   · exact h
  have hr':Rel M S0 w0 (fun b=>S b∧b≠D) β H (w.putObj D (.deferred none)):=by
   refine⟨⟨hr.fr.os,hr.fr.tape,hr.fr.output,by rw[World.putObj_size];exact hr.fr.size,fun b hb hm=>(ho b (by omega)).trans (hr.fr.block b hb hm),hr.fr.drawn⟩,fun b hb=>⟨hr.s0 b hb,fun e=>h0 (e▸hb)⟩,fun b hb=>⟨by rw[World.putObj_size];exact (hr.sS b hb.1).1,(hr.sS b hb.1).2⟩,fun k g hl hg=>⟨(hr.own k g hl hg).1,by rw[World.putObj_size];exact (hr.own k g hl hg).2.1,fun hb=>(hr.own k g hl hg).2.2 hb.1⟩,hr.dis,fun k=>ObR.cut hc ho _ _ (fun g hg hl e=>(hr.own k g hl hg).2.2 (e▸h1)) (hr.ob k),hr.gl.cut hc ho⟩
  have hd':∀ds:List Deferred,(∀d'∈ds,d'.target≠.collected D)→DefsOk S0 S w ds→DefsOk S0 (fun b=>S b∧b≠D) (w.putObj D (.deferred none)) ds:=by
   intro ds
   induction ds with
   | nil=>intro _ _;trivial
   | cons d ds ih=>
    rintro hne ⟨⟨D',e,k0,k1,k2,k3⟩,k4⟩
    have hne':D'≠D:=by
     intro e'
     have:=hne d (List.mem_cons_self ..)
     rw[e,e'] at this
     exact this rfl
    exact⟨⟨D',e,k0,⟨k1,hne'⟩,(ho D' hne').trans k2,k3⟩,ih (fun d' hd=>hne d' (List.mem_cons_of_mem _ hd)) k4⟩
  obtain⟨S',w',g1,g2,g3⟩:=marks_of tmps ds _ _ hr' (fun t=>VL.cut hc ho _ _ (hs t)) (hd' ds h3 h4)
  exact⟨S',w',g1,g2,fun fn R' u hu hh=>⟨hu,.inl ⟨D,_,rfl,run_takeDeferred h2,g3 fn R' u hu hh⟩⟩⟩
theorem marks_inv (h:Inv M S0 w0 π sl H S β a w):∃S' w',Inv M S0 w0 π sl H S' β ⟨a.tmps,[]⟩ w'∧∀fn R' u,u≠.run→LeavesInM (Wd none) 0 P fn a.tmps R' [] u w'→LeavesInM (Wd none) 0 P fn a.tmps R' a.defers u w:=by
 obtain⟨S',w',g1,g2,g3⟩:=marks_of (P:=P) a.tmps a.defers S w h.rel h.sl h.nod.2
 exact⟨S',w',⟨g1,h.len,g2,⟨fun _=>rfl,trivial⟩,h.pin⟩,g3⟩
theorem ret_sound (hT:TabOk P T) {fn:Func} {R:AV→List Ob→Prop} {R':Ending→World→Prop}
 (hR:∀v news S β w u,Rel M S0 w0 S β (newsH news) w→VL S w β (newsH news) v [u]→(∀k,k<π.n→ObExt (π.β k) (π.H k) (β k) (newsH news k))→R v news→R' (.returned u) w)
 {s:St} (hi:Inv M S0 w0 π s.slots s.H S β a w) (hn:s.n=π.n) (h:endA T fn R .ret s):LeavesInM (Wd none) 0 P fn a.tmps R' a.defers .returning w:=by
 obtain⟨S',w',hi',hl⟩:=marks_inv (P:=P) hi
 refine hl fn R' .returning (by simp) ?_
 simp only[endA] at h
 split at h
 rotate_left
 · cases h
 rename_i vs hvs
 obtain⟨us,h1,h2⟩:=res_of hT hi' fn.results.toList vs hvs
 have hi2:Inv M S0 w0 π (St.mk vs s.obs s.n 0 false).slots (St.mk vs s.obs s.n 0 false).H S' β ⟨us.toArray,[]⟩ w':=by
  refine⟨hi'.rel,?_,fun t => ?_,⟨fun _=>rfl,trivial⟩,hi'.pin⟩
  · rw[List.size_toArray,VLs.length _ _ h2]
    exact Nat.le_refl _
  · show VL S' w' β s.H (vs.getD t .undef) _
    cases e:vs[t]? with
    | none=>
     rw[List.getD,e]
     exact⟨_,rfl,trivial⟩
    | some v=>
     obtain⟨u,g1,g2⟩:=VLs.get _ _ h2 t v e
     rw[List.getD,e]
     have:us.toArray.getD t undef=u:=by
      simp[g1]
     rw[this]
     exact g2
 obtain⟨β',hi3⟩:=tidy_sound (s:=St.mk vs s.obs s.n 0 false) (List.range vs.length) hn hi2
 have hlen:=tidy_length (List.range vs.length) (St.mk vs s.obs s.n 0 false)
 generalize (St.mk vs s.obs s.n 0 false).tidy (List.range vs.length)=s' at h hi3 hlen
 have hv:=oneOf_of (vls_of _ _ (hlen.trans (VLs.length _ _ h2).symm) hi3.sl)
 refine⟨_,?_,hR _ _ S' β' w' _ hi3.rel hv hi3.pin h⟩
 rw[results_eq,Array.mapM_eq_mapM_toList]
 simp only[map_eq_pure_bind,bind_assoc,pure_bind,Sem.run_bind,h1,Result.andThen_ok,Sem.run_pure]
abbrev baseB (M S0:Nat→Prop) (w0:World):Bs:=fun _ _ M' S0' w0'=>M=M'∧S0=S0'∧w0=w0'
theorem end_sound (hT:TabOk P T) {fn:Func} {R:AV→List Ob→Prop} {RP:Value→List Ob→Prop} {R':Ending→World→Prop}
 (hR:∀v news S β w u,Rel M S0 w0 S β (newsH news) w→VL S w β (newsH news) v [u]→(∀k,k<π.n→ObExt (π.β k) (π.H k) (β k) (newsH news k))→R v news→R' (.returned u) w)
 (hP:∀x news S β w,Rel M S0 w0 S β (newsH news) w→(∀k,k<π.n→ObExt (π.β k) (π.H k) (β k) (newsH news k))→RP x news→R' (.panicked [{v:=x,recovered:=false}]) w):Lifts (baseB M S0 w0) π (endP T fn R RP) (bodyPostM (Wd none) 0 P fn R'):=by
 rintro e s S β a w ⟨M',S0',w0',⟨rfl,rfl,rfl⟩,hi⟩ hn h
 cases e with
 | exit i=>exact h.elim
 | normal=>exact ret_sound hT hR hi hn h
 | ret=>exact ret_sound hT hR hi hn h
 | panic x=>
  obtain⟨S',w',hi',hl⟩:=marks_inv (P:=P) hi
  refine hl fn R' _ (by simp) ?_
  have hi2:Inv M S0 w0 π (St.mk [] s.obs s.n 0 false).slots (St.mk [] s.obs s.n 0 false).H S' β ⟨#[],[]⟩ w':=⟨hi'.rel,Nat.le_refl _,fun t=>⟨_,rfl,trivial⟩,⟨fun _=>rfl,trivial⟩,hi'.pin⟩
  obtain⟨β',hi3⟩:=tidy_sound (s:=St.mk [] s.obs s.n 0 false) [] hn hi2
  exact hP x _ S' β' w' hi3.rel hi3.pin h
theorem start_inv {fn:Func} {args:List AV} {obs:List Ob} {vs:List Value} {n:Nat} (hrel:Rel M S0 w0 S β (newsH obs) w) (hvs:VLs S w β (newsH obs) args vs) (hpin:∀k,k<π.n→ObExt (π.β k) (π.H k) (β k) (newsH obs k)) :
 Inv M S0 w0 π (St.mk (args++List.replicate (fn.ntmps-args.length) .undef) obs n 0 false).slots (St.mk (args++List.replicate (fn.ntmps-args.length) .undef) obs n 0 false).H S β {tmps:=vs.toArray++Array.replicate (fn.ntmps-vs.toArray.size) undef,defers:=[]} w:=by
 have hl:=VLs.length _ _ hvs
 refine⟨hrel,?_,fun t => ?_,⟨fun _=>rfl,trivial⟩,hpin⟩
 · simp only[List.length_append,List.length_replicate,Array.size_append,List.size_toArray,Array.size_replicate,hl]
   exact Nat.le_refl _
 · by_cases ht:t<args.length
   · obtain⟨u,g1,g2⟩:=VLs.get _ _ hvs t args[t] (List.getElem?_eq_getElem ht)
     have e1:(args++List.replicate (fn.ntmps-args.length) AV.undef).getD t .undef=args[t]:=by
      simp only[List.getD]
      rw[List.getElem?_append_left ht,List.getElem?_eq_getElem ht]
      rfl
     have e2:(vs.toArray++Array.replicate (fn.ntmps-vs.toArray.size) undef).getD t undef=u:=by
      have:t<vs.length:=by omega
      rw[List.getElem?_eq_getElem this] at g1
      cases g1
      rw[Array.getD_eq_getD_getElem?,Array.getElem?_append_left (show t<vs.length from this)]
      simp[this]
     show VL S w β (newsH obs) ((args++List.replicate (fn.ntmps-args.length) AV.undef).getD t .undef) [(vs.toArray++Array.replicate (fn.ntmps-vs.toArray.size) undef).getD t undef]
     rw[e1,e2]
     exact g2
   · have e1:(args++List.replicate (fn.ntmps-args.length) AV.undef).getD t .undef=.undef:=by
      simp only[List.getD]
      rw[List.getElem?_append_right (by omega),List.getElem?_replicate]
      split<;>rfl
     show VL S w β (newsH obs) ((args++List.replicate (fn.ntmps-args.length) AV.undef).getD t .undef) [(vs.toArray++Array.replicate (fn.ntmps-vs.toArray.size) undef).getD t undef]
     rw[e1]
     exact⟨_,rfl,trivial⟩
theorem endP_of {fn:Func} {R:AV→List Ob→Prop} {RP:Value→List Ob→Prop} {e:Ex} {s:St} (h:endA T fn R e s):endP T fn R RP e s:=by
 cases e with
 | normal=>exact h
 | ret=>exact h
 | exit i=>exact h
 | panic x=>exact h.elim
theorem recs_none {B:Bs}:RecsOk none B:=fun _ _ _ _ _ _ l h=>by cases h
theorem fn_calls (he:EnvOk P env) (hy:env.ycnt=0∧env.isIt=false) (hT:TabOk P T) (hm:P.follows .mixedOrders=true) {g:FuncId} {fn:Func} {c:Code} (hf:P.funcs[g]? = some fn) (hname:(fn.name == "runtime.NumGoroutine")=false) (hb:fn.body=some c) {args:List AV} {v:AV} {news:List Ob}
 (h:fnA T env fn c args fun v' news'=>v'=v∧news'=news):ACalls P g args v news:=by
 refine⟨⟨fn,hf,hname,by rw[hb];rfl⟩,fun S w vs hS hG hvs => ?_⟩
 refine (callsIn_wide (n:=0)).1 (callsIn_of_wp_marks (F:=Wd none) hf hb trivial ?_)
 have hrel:Rel (fun _=>False) S w S cr0 (newsH []) w:=⟨Fr.refl _ _,fun _ h=>h,fun b hb=>⟨hS b hb,.inl hb⟩,fun k g hk=>(by cases hk),fun k k' g hk=>(by cases hk),fun k=>trivial,hG⟩
 have hi:=start_inv (π:=⟨0,cr0,ob0,false⟩) (fn:=fn) (n:=0) (vs:=vs) hrel hvs (fun k hk=>absurd hk (Nat.not_lt_zero k))
 exact code_sound hT hm c env he none (baseB _ _ _) ⟨0,cr0,ob0,false⟩ (YieldOk.none hy) recs_none (fun h=>by cases h) (fun h=>by cases h) _ _ _ _ S cr0 _ w ⟨_,_,_,⟨rfl,rfl,rfl⟩,hi⟩ rfl h (fun e s S' β' a' w' h1 h2 h3=>end_sound (RP:=fun _ _=>False) hT (fun v' news' S' β' w' u h1 h2 _ h3=>⟨u,rfl,S',β',by rw[←h3.2];exact h1,by rw[←h3.2,←h3.1];exact h2⟩) (fun _ _ _ _ _ _ _ h=>h.elim) e s S' β' a' w' h1 h2 (endP_of h3))
theorem fn_callsR (he:EnvOk P env) (hy:env.ycnt=0∧env.isIt=false) (hT:TabOk P T) (hm:P.follows .mixedOrders=true) {g:FuncId} {fn:Func} {c:Code} (hf:P.funcs[g]? = some fn) (hb:fn.body=some c) {args:List AV} {R:AV→List Ob→Prop}
 (h:fnA T env fn c args R) (S:Nat→Prop) (w:World) (vs:List Value) (hS:∀b,S b→b<w.heap.size) (hG:GL S w) (hvs:VLs S w cr0 ob0 args vs) :
 Calls P g vs.toArray w fun e w'=>∃v news u,R v news∧e=.returned u∧∃S' β',Rel (fun _=>False) S w S' β' (newsH news) w'∧VL S' w' β' (newsH news) v [u]:=by
 refine (callsIn_wide (n:=0)).1 (callsIn_of_wp_marks (F:=Wd none) hf hb trivial ?_)
 have hrel:Rel (fun _=>False) S w S cr0 (newsH []) w:=⟨Fr.refl _ _,fun _ h=>h,fun b hb=>⟨hS b hb,.inl hb⟩,fun k g hk=>(by cases hk),fun k k' g hk=>(by cases hk),fun k=>trivial,hG⟩
 have hi:=start_inv (π:=⟨0,cr0,ob0,false⟩) (fn:=fn) (n:=0) (vs:=vs) hrel hvs (fun k hk=>absurd hk (Nat.not_lt_zero k))
 exact code_sound hT hm c env he none (baseB _ _ _) ⟨0,cr0,ob0,false⟩ (YieldOk.none hy) recs_none (fun h=>by cases h) (fun h=>by cases h) _ _ _ _ S cr0 _ w ⟨_,_,_,⟨rfl,rfl,rfl⟩,hi⟩ rfl h (fun e s S' β' a' w' h1 h2 h3=>end_sound (RP:=fun _ _=>False) hT (fun v' news' S' β' w' u h1 h2 _ h3=>⟨v',news',u,h3,rfl,S',β',h1,h2⟩) (fun _ _ _ _ _ _ _ h=>h.elim) e s S' β' a' w' h1 h2 (endP_of h3))
theorem fn_calls2B (he:EnvOk P env) (hy:env.ycnt=0∧env.isIt=false) (hT:TabOk P T) (hm:P.follows .mixedOrders=true) {g:FuncId} {fn:Func} {c:Code} (hf:P.funcs[g]? = some fn) (hname:(fn.name == "runtime.NumGoroutine")=false) (hb:fn.body=some c) {args:List AV} {obs:List Ob} {v:AV} {obs':List Ob}
 (h:fnB T env fn c args obs fun v' o'=>v'=v∧o'=obs'):ACalls2 P g args obs v obs':=by
 refine⟨⟨fn,hf,hname,by rw[hb];rfl⟩,fun S β w vs hrel hvs => ?_⟩
 refine (callsIn_wide (n:=0)).1 (callsIn_of_wp_marks (F:=Wd none) hf hb trivial ?_)
 have hi:=start_inv (π:=⟨obs.length,β,newsH obs,false⟩) (fn:=fn) (n:=obs.length) (vs:=vs) hrel hvs (fun k _=>ObExt.refl _ _)
 exact code_sound hT hm c env he none (baseB _ _ _) ⟨obs.length,β,newsH obs,false⟩ (YieldOk.none hy) recs_none (fun h=>by cases h) (fun h=>by cases h) _ _ _ _ S β _ w ⟨_,_,_,⟨rfl,rfl,rfl⟩,hi⟩ rfl h (fun e s S' β' a' w' h1 h2 h3=>end_sound (RP:=fun _ _=>False) hT (fun v' news' S' β' w' u h1 h2 hp h3=>⟨u,rfl,S',β',by rw[←h3.2];exact h1,by rw[←h3.2,←h3.1];exact h2,by rw[←h3.2];exact hp⟩) (fun _ _ _ _ _ _ _ h=>h.elim) e s S' β' a' w' h1 h2 (endP_of h3))
theorem VLs.any {β':Nat→Cr} {H':Nat→Ob}:∀(l:List AV) (vs:List Value),l.flatMap AV.refs=[]→VLs S w β H l vs→VLs S w β' H' l vs:=by
 have one:∀(x:AV) (vs:List Value),x.refs=[]→VL S w β H x vs→VL S w β' H' x vs:=by
  intro x
  induction x with
  | agg c ih=>rintro vs h ⟨cs,e,hc⟩;exact⟨cs,e,ih _ h hc⟩
  | tuple c ih=>rintro vs h ⟨cs,e,hc⟩;exact⟨cs,e,ih _ h hc⟩
  | fn f a c ih1 ih2=>
   rintro vs h ⟨p,q,e,h1,h2⟩
   simp only[AV.refs,List.append_eq_nil_iff] at h
   exact⟨p,q,e,ih1 _ h.1 h1,ih2 _ h.2 h2⟩
  | iface t v ih=>rintro vs h ⟨v,e,h1⟩;exact⟨v,e,ih _ h h1⟩
  | cons a b ih1 ih2=>
   rintro vs h ⟨v,r,e,h1,h2⟩
   simp only[AV.refs,List.append_eq_nil_iff] at h
   exact⟨v,r,e,ih1 _ h.1 h1,ih2 _ h.2 h2⟩
  | ptr k off=>intro vs h;simp[AV.refs] at h
  | row k=>intro vs h;simp[AV.refs] at h
  | rptr k i off=>intro vs h;simp[AV.refs] at h
  | view k lo n e t=>intro vs h;simp[AV.refs] at h
  | prow k=>intro vs h;simp[AV.refs] at h
  | pptr k i=>intro vs h;simp[AV.refs] at h
  | mp k=>intro vs h;simp[AV.refs] at h
  | nptr k=>intro vs h;simp[AV.refs] at h
  | itr k=>intro vs h;simp[AV.refs] at h
  | _=>intro vs _ h;exact h
 intro l
 induction l with
 | nil=>intro vs _ h;exact h
 | cons x l ih=>
  rintro vs h ⟨v,r,e,h1,h2⟩
  rw[List.flatMap_cons,List.append_eq_nil_iff] at h
  exact⟨v,r,e,one x [v] h.1 h1,ih r h.2 h2⟩
end
end Go.Proofs.YtkpjcmiijlpcaaaDoor.Aw
