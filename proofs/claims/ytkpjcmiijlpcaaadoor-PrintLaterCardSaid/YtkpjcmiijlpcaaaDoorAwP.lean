/- An abstract program logic over the model, sixteenth part: a call within a body; each opera. -/
import Derived.Test.YtkpjcmiijlpcaaaDoorAwO
namespace Go.Proofs.YtkpjcmiijlpcaaaDoor.Aw
open Go
section
variable {P:Program} {T:Tab} {env:Env} {M S0:Nat→Prop} {w0:World} {S S1:Nat→Prop} {β:Nat→Cr} {H:Nat→Ob} {w:World} {o:Oper} {a:Act} {ev:Operand→AV} {nid:Nat} {r:Res}
theorem Rel.call (h:Rel M S0 w0 S β H w) {S':Nat→Prop} {β':Nat→Cr} {news:List Ob} {w':World} {v:AV} {u:Value}
 (hc:Rel (fun _=>False) S1 w S' β' (newsH news) w') (hv:VL S' w' β' (newsH news) v [u]) (hn:∀k,nid≤k→k<nid+news.length→H k=.none)
 (hcase:(v.noList=true∧news.all Ob.noList=true)∨∀b,S1 b→S b) :
 ∃S2 β2,Rel M S0 w0 S2 β2 (updH H ((news.zipIdx nid).map fun p=>(p.2,p.1.shift nid))) w' ∧
  VL S2 w' β2 (updH H ((news.zipIdx nid).map fun p=>(p.2,p.1.shift nid))) (v.shift nid) [u] ∧
  Ext S w β H S2 w' β2 (updH H ((news.zipIdx nid).map fun p=>(p.2,p.1.shift nid))):=by
 let S2:Nat→Prop:=fun b=>S b∨(S' b∧w.heap.size≤b)
 let β2:Nat→Cr:=fun k=>if nid≤k∧k<nid+news.length then β' (k-nid) else β k
 have hH:∀k,updH H ((news.zipIdx nid).map fun p=>(p.2,p.1.shift nid)) k=if nid≤k∧k<nid+news.length then (news.getD (k-nid) .none).shift nid else H k:=by
  intro k
  unfold updH
  rw[lookup_news]
  split<;>rfl
 generalize updH H ((news.zipIdx nid).map fun p=>(p.2,p.1.shift nid))=H2 at hH
 have hblk:∀b,b<w.heap.size→w'.heap[b]? = w.heap[b]? := fun b hb=>hc.fr.block b hb (fun e=>e)
 have hx:Ext S w β H S2 w' β2 H2:=by
  refine⟨fun b hb=>⟨.inl hb,hblk b (h.sS b hb).1⟩,fun k => ?_⟩
  rw[hH k]
  by_cases hk:nid≤k∧k<nid+news.length
  · rw[hn k hk.1 hk.2];trivial
  · simp only[β2,if_neg hk];exact ObExt.refl _ _
 have hsh:∀k,newsH news k≠.none→H2 (k+nid)=(newsH news k).shift nid∧β2 (k+nid)=β' k:=by
  intro k hk
  have hlt:k<news.length:=by
   rcases Nat.lt_or_ge k news.length with h | h
   · exact h
   · exact absurd (by simp[newsH,List.getElem?_eq_none h]) hk
  have hc:nid≤k+nid∧k+nid<nid+news.length:=by omega
  refine⟨?_,?_⟩
  · rw[hH,if_pos hc,Nat.add_sub_cancel]
  · simp only[β2,if_pos hc,Nat.add_sub_cancel]
 have hSS:(∀b,S1 b→S b)→∀b,S' b→S2 b:=fun hh b hb=>(hc.sS b hb).2.elim (fun e=>.inl (hh b e)) (fun e=>.inr ⟨hb,e⟩)
 have hvl:VL S2 w' β' (newsH news) v [u]:=by
  rcases hcase with hcase | hcase
  · exact VL.free v [u] hcase.1 hv
  · exact VL.ext (Ext.wide (hSS hcase)) _ _ hv
 have hob:∀k,k<news.length→ObR S2 w' β' (newsH news) (β' k) (newsH news k):=by
  intro k hk
  rcases hcase with hcase | hcase
  · refine ObR.free _ _ ?_ (hc.ob k)
    rw[List.all_eq_true] at hcase
    refine hcase.2 _ ?_
    simp only[newsH,List.getD,List.getElem?_eq_getElem hk,Option.getD_some]
    exact List.getElem_mem hk
  · exact ObR.ext (Ext.wide (hSS hcase)) _ _ (fun g _=>rfl) (hc.ob k)
 have lv:∀ob:Ob,(ob.shift nid).live=ob.live:=fun ob=>by cases ob<;>rfl
 refine⟨S2,β2,⟨⟨hc.fr.os.trans h.fr.os,hc.fr.tape.trans h.fr.tape,hc.fr.output.trans h.fr.output,Nat.le_trans h.fr.size hc.fr.size,fun b hb hm=>(hblk b (Nat.lt_of_lt_of_le hb h.fr.size)).trans (h.fr.block b hb hm),Nat.le_trans h.fr.drawn hc.fr.drawn⟩,fun b hb=>.inl (h.s0 b hb),?_,?_,?_,?_,h.gl.mono hx.hS⟩,VL.shift hsh v [u] hvl,hx⟩
 · intro b hb
   rcases hb with hb | ⟨hb,hb2⟩
   · exact⟨Nat.lt_of_lt_of_le (h.sS b hb).1 hc.fr.size,(h.sS b hb).2⟩
   · exact⟨(hc.sS b hb).1,.inr (Nat.le_trans h.fr.size hb2)⟩
 · intro k g hl hg
   rw[hH] at hl
   by_cases hk:nid≤k∧k<nid+news.length
   · rw[if_pos hk,lv] at hl
     simp only[β2,if_pos hk] at hg
     obtain⟨q1,q2,q3⟩:=hc.own (k-nid) g hl hg
     have q1:=q1.resolve_left (fun e=>e)
     refine⟨.inr (Nat.le_trans h.fr.size q1),q2,?_⟩
     rintro (e | ⟨e,_⟩)
     · have:=(h.sS g e).1;omega
     · exact q3 e
   · rw[if_neg hk] at hl
     simp only[β2,if_neg hk] at hg
     obtain⟨q1,q2,q3⟩:=h.own k g hl hg
     refine⟨q1,Nat.lt_of_lt_of_le q2 hc.fr.size,?_⟩
     rintro (e | ⟨_,e⟩)
     · exact q3 e
     · omega
 · intro k k' g hl hl' hg hg'
   rw[hH] at hl hl'
   by_cases hk:nid≤k∧k<nid+news.length
   · rw[if_pos hk,lv] at hl
     simp only[β2,if_pos hk] at hg
     by_cases hk':nid≤k'∧k'<nid+news.length
     · rw[if_pos hk',lv] at hl'
       simp only[β2,if_pos hk'] at hg'
       have:=hc.dis _ _ g hl hl' hg hg'
       omega
     · rw[if_neg hk'] at hl'
       simp only[β2,if_neg hk'] at hg'
       have q1:=(hc.own _ g hl hg).1.resolve_left (fun e=>e)
       have q2:=(h.own k' g hl' hg').2.1
       omega
   · rw[if_neg hk] at hl
     simp only[β2,if_neg hk] at hg
     by_cases hk':nid≤k'∧k'<nid+news.length
     · rw[if_pos hk',lv] at hl'
       simp only[β2,if_pos hk'] at hg'
       have q1:=(hc.own _ g hl' hg').1.resolve_left (fun e=>e)
       have q2:=(h.own k g hl hg).2.1
       omega
     · rw[if_neg hk'] at hl'
       simp only[β2,if_neg hk'] at hg'
       exact h.dis k k' g hl hl' hg hg'
 · intro k
   rw[hH]
   by_cases hk:nid≤k∧k<nid+news.length
   · rw[if_pos hk]
     simp only[β2,if_pos hk]
     exact ObR.shift hsh _ _ (hob (k-nid) (by omega))
   · rw[if_neg hk]
     simp only[β2,if_neg hk]
     by_cases hl:(H k).live=true
     · exact ObR.ext hx _ _ (fun g hg=>hblk g (h.own k g hl hg).2.1) (h.ob k)
     · exact ObR.idle (by simpa using hl)
theorem newsH_ren (H:Nat→Ob) (perm:List Nat):newsH (perm.map fun k=>(H k).ren perm)=renH H perm:=by
 funext p
 simp only[newsH,renH,List.getD,List.getElem?_map]
 cases perm[p]? <;> rfl
theorem ObExt.names {c c':Cr} {o o':Ob} {perm:List Nat} {f:Nat→Nat} (h:ObExt c (o.ren perm) c' o'):ObExt c o c' (o'.reN f):=by
 cases o with
 | none=>trivial
 | dead=>obtain rfl:o'=.dead:=h;rfl
 | cells e cs=>
  rcases h with rfl | ⟨e1,cs',rfl⟩
  · exact .inl rfl
  · exact .inr ⟨e1,_,rfl⟩
 | row e t xs=>
  rcases h with rfl | ⟨e1,xs',rfl,e2⟩
  · exact .inl rfl
  · exact .inr ⟨e1,xs',rfl,e2⟩
 | prow e xs=>
  rcases h with rfl | ⟨e1,xs',rfl,e2⟩
  · exact .inl rfl
  · exact .inr ⟨e1,_,rfl,by simpa using e2⟩
 | map ag t es=>
  rcases h with rfl | ⟨e1,es',rfl⟩
  · exact .inl rfl
  · exact .inr ⟨e1,_,rfl⟩
 | orow e t xs=>
  rcases h with rfl | ⟨e1,e0,xs',hq,e2⟩
  · exact .inl rfl
  · rcases hq with rfl | ⟨i,off,rfl⟩
    · exact .inr ⟨e1,e0,xs',.inl rfl,e2⟩
    · exact .inr ⟨e1,e0,xs',.inr ⟨_,_,rfl⟩,e2⟩
 | hrow e t xs i off=>
  rcases h with rfl | ⟨e1,e0,xs',hq,e2⟩
  · exact .inl rfl
  · rcases hq with rfl | ⟨i,off,rfl⟩
    · exact .inr ⟨e1,e0,xs',.inl rfl,e2⟩
    · exact .inr ⟨e1,e0,xs',.inr ⟨_,_,rfl⟩,e2⟩
 | mit m n seen cur=>
  simp only[Ob.ren] at h
  cases hq:posOf perm m 0 with
  | none=>rw[hq] at h;obtain rfl:o'=.dead:=h;exact .inl rfl
  | some q=>
   rw[hq] at h
   rcases h with rfl | ⟨e1,m',n',s',c',rfl⟩
   · exact .inl rfl
   · exact .inr ⟨e1,_,_,_,_,rfl⟩
theorem Rel.hand (h:Rel M S0 w0 S β H w) {perm:List Nat} (hn:perm.Nodup) (hS:∀b,S b→S1 b) (hS1:∀b,S1 b→S b∨∃k,k∉perm∧(H k).live=true∧(β k).g=some b) :
 Rel (Mof (renC β perm) (perm.map fun k=>(H k).ren perm)) S1 w S1 (renC β perm) (newsH (perm.map fun k=>(H k).ren perm)) w:=by
 have hr:=h.ren hn
 rw[newsH_ren]
 have lv:∀o:Ob,(o.ren perm).live=true→o.live=true:=ren_live perm
 have hold:∀p g,(renH H perm p).live=true→(renC β perm p).has g→∃k,perm[p]? = some k∧(H k).live=true∧(β k).has g:=by
  intro p g hl hg
  unfold renH at hl
  unfold renC at hg
  cases e:perm[p]? with
  | none=>rw[e] at hl;cases hl
  | some k=>rw[e] at hl hg;exact⟨k,rfl,lv _ hl,hg⟩
 refine⟨Fr.refl _ _,fun _ hb=>hb,fun b hb=>⟨?_,.inl hb⟩,fun p g hl hg=>⟨.inl ⟨p,by rw[newsH_ren];exact hl,hg⟩,(hr.own p g hl hg).2.1,fun hs => ?_⟩,hr.dis,fun p=>ObR.ext (Ext.wide hS) _ _ (fun _ _=>rfl) (hr.ob p),h.gl.mono fun b hb=>⟨hS b hb,rfl⟩⟩
 · rcases hS1 b hb with hb | ⟨k,_,hl,hg⟩
   · exact (h.sS b hb).1
   · exact (h.own k b hl (.inl hg)).2.1
 · obtain⟨k,hk,q1,q2⟩:=hold p g hl hg
   rcases hS1 g hs with hs | ⟨k',hk',q3,q4⟩
   · exact (h.own k g q1 q2).2.2 hs
   · have:=h.dis k k' g q1 q3 q2 (.inl q4)
     subst this
     exact hk' (List.mem_of_getElem? hk)
theorem Rel.call2 (h:Rel M S0 w0 S β H w) {perm:List Nat} (hn:perm.Nodup) (hS:∀b,S b→S1 b)
 {S':Nat→Prop} {β':Nat→Cr} {obs':List Ob} {w':World} {v:AV} {u:Value} {f:Nat→Nat} {H2:Nat→Ob} {m:Nat}
 (hf1:∀p k,perm[p]? = some k→f p=k) (hf2:∀j,f (perm.length+j)=nid+j) (hlen:obs'.length=perm.length+m)
 (hc:Rel (Mof (renC β perm) (perm.map fun k=>(H k).ren perm)) S1 w S' β' (newsH obs') w') (hv:VL S' w' β' (newsH obs') v [u])
 (hx:∀i,i<perm.length→ObExt (renC β perm i) (renH H perm i) (β' i) (newsH obs' i))
 (hlive:∀k∈perm,(H k).live=true) (hnew:∀j,j<m→H (nid+j)=.none)
 (hA:∀p k,perm[p]? = some k→H2 k=(newsH obs' p).reN f) (hB:∀j,j<m→H2 (nid+j)=(newsH obs' (perm.length+j)).reN f)
 (hC:∀k,k∉perm→¬(nid≤k∧k<nid+m)→H2 k=H k)
 (hcase:(v.noList=true∧obs'.all Ob.noList=true)∨∀b,S1 b→S b) :
 ∃S2 β2,Rel M S0 w0 S2 β2 H2 w'∧VL S2 w' β2 H2 (v.reN f) [u]∧Ext S w β H S2 w' β2 H2:=by
 let S2:Nat→Prop:=fun b=>S b∨(S' b∧w.heap.size≤b)
 let β2:Nat→Cr:=fun k=>match posOf perm k 0 with
  | some p=>β' p
  | none=>if nid≤k∧k<nid+m then β' (perm.length+(k-nid)) else β k
 have lvn:∀o:Ob,(o.reN f).live=o.live:=fun o=>by cases o<;>rfl
 have lvr:∀o:Ob,(o.ren perm).live=true→o.live=true:=ren_live perm
 have hpos:∀p k,perm[p]? = some k→posOf perm k 0=some p:=by
  intro p k hk
  obtain⟨hp,hk'⟩:=List.getElem?_eq_some_iff.1 hk
  cases e:posOf perm k 0 with
  | some q=>
   obtain⟨j,rfl,e2⟩:=posOf_get _ _ _ _ e
   rw[Nat.zero_add]
   have:=(List.getElem?_inj hp hn).1 (hk.trans e2.symm)
   rw[this]
  | none=>exact absurd e (posOf_some perm k 0 (List.mem_of_getElem? hk))
 have hpos2:∀k,k∉perm→posOf perm k 0=none:=by
  intro k hk
  cases e:posOf perm k 0 with
  | none=>rfl
  | some q=>
   obtain⟨j,rfl,e2⟩:=posOf_get _ _ _ _ e
   exact absurd (List.mem_of_getElem? e2) hk
 have hβA:∀p k,perm[p]? = some k→β2 k=β' p:=fun p k hk=>by simp only[β2,hpos p k hk]
 have hnp:∀j,j<m→nid+j∉perm:=fun j hj hm=>by have:=hlive _ hm;rw[hnew j hj] at this;cases this
 have hβB:∀j,j<m→β2 (nid+j)=β' (perm.length+j):=fun j hj=>by
  simp only[β2,hpos2 _ (hnp j hj)]
  rw[if_pos ⟨by omega,by omega⟩,Nat.add_sub_cancel_left]
 have hβC:∀k,k∉perm→¬(nid≤k∧k<nid+m)→β2 k=β k:=fun k h1 h2=>by simp only[β2,hpos2 k h1,if_neg h2]
 have part:∀k,(∃p:Nat,perm[p]? = some k)∨(∃j,j<m∧k=nid+j)∨(k∉perm∧¬(nid≤k∧k<nid+m)):=by
  intro k
  by_cases hk:k∈perm
  · exact .inl (List.mem_iff_getElem?.1 hk)
  · by_cases h2:nid≤k∧k<nid+m
    · exact .inr (.inl ⟨k-nid,by omega,by omega⟩)
    · exact .inr (.inr ⟨hk,h2⟩)
 have hs:∀p,newsH obs' p≠.none→H2 (f p)=(newsH obs' p).reN f∧β2 (f p)=β' p:=by
  intro p hp
  have hlt:p<obs'.length:=by
   rcases Nat.lt_or_ge p obs'.length with h | h
   · exact h
   · exact absurd (by simp[newsH,List.getElem?_eq_none h]) hp
  by_cases h1:p<perm.length
  · have hk:perm[p]? = some perm[p]:=List.getElem?_eq_getElem h1
    rw[hf1 p _ hk]
    exact⟨hA p _ hk,hβA p _ hk⟩
  · obtain⟨j,rfl⟩:∃j,p=perm.length+j:=⟨p-perm.length,by omega⟩
    rw[hf2 j]
    exact⟨hB j (by omega),hβB j (by omega)⟩
 have mof:∀b,Mof (renC β perm) (perm.map fun k=>(H k).ren perm) b→∃k,k∈perm∧(H k).live=true∧(β k).has b:=by
  rintro b ⟨i,hl,hg⟩
  rw[newsH_ren] at hl
  unfold renH at hl
  unfold renC at hg
  cases e:perm[i]? with
  | none=>rw[e] at hl;cases hl
  | some k=>rw[e] at hl hg;exact⟨k,List.mem_of_getElem? e,lvr _ hl,hg⟩
 have hblk:∀b,b<w.heap.size→(∀k∈perm,(H k).live=true→¬(β k).has b)→w'.heap[b]? = w.heap[b]? := fun b hb hk=>hc.fr.block b hb fun hm=>by
  obtain⟨k,q1,q2,q3⟩:=mof b hm
  exact hk k q1 q2 q3
 have hSb:∀b,S b→w'.heap[b]? = w.heap[b]? := fun b hb=>hblk b (h.sS b hb).1 fun k _ hl hg=>(h.own k b hl hg).2.2 hb
 have hext:Ext S w β H S2 w' β2 H2:=by
  refine⟨fun b hb=>⟨.inl hb,hSb b hb⟩,fun k => ?_⟩
  rcases part k with ⟨p,hp⟩ | ⟨j,hj,rfl⟩ | ⟨h1,h2⟩
  · rw[hA p k hp,hβA p k hp]
    have hlt:=(List.getElem?_eq_some_iff.1 hp).1
    have:=hx p hlt
    simp only[renC,renH,hp] at this
    exact ObExt.names this
  · rw[hnew j hj];trivial
  · rw[hC k h1 h2,hβC k h1 h2];exact ObExt.refl _ _
 have hSS:(∀b,S1 b→S b)→∀b,S' b→S2 b:=fun hh b hb=>(hc.sS b hb).2.elim (fun e=>.inl (hh b e)) (fun e=>.inr ⟨hb,e⟩)
 have hvl:VL S2 w' β' (newsH obs') v [u]:=by
  rcases hcase with hcase | hcase
  · exact VL.free v [u] hcase.1 hv
  · exact VL.ext (Ext.wide (hSS hcase)) _ _ hv
 have hob:∀p,ObR S2 w' β' (newsH obs') (β' p) (newsH obs' p):=by
  intro p
  rcases hcase with hcase | hcase
  · rcases Nat.lt_or_ge p obs'.length with hk | hk
    · refine ObR.free _ _ ?_ (hc.ob p)
      rw[List.all_eq_true] at hcase
      refine hcase.2 _ ?_
      simp only[newsH,List.getD,List.getElem?_eq_getElem hk,Option.getD_some]
      exact List.getElem_mem hk
    · have:newsH obs' p=.none:=by simp[newsH,List.getElem?_eq_none hk]
      rw[this];trivial
  · exact ObR.ext (Ext.wide (hSS hcase)) _ _ (fun g _=>rfl) (hc.ob p)
 have inn:∀k,(∃p:Nat,perm[p]? = some k)∨(∃j,j<m∧k=nid+j)→∃p,p<obs'.length∧H2 k=(newsH obs' p).reN f∧β2 k=β' p∧f p=k:=by
  rintro k (⟨p,hp⟩ | ⟨j,hj,rfl⟩)
  · have hlt:=(List.getElem?_eq_some_iff.1 hp).1
    exact⟨p,by omega,hA p k hp,hβA p k hp,hf1 p k hp⟩
  · exact⟨perm.length+j,by omega,hB j hj,hβB j hj,hf2 j⟩
 have hown:∀p g,(newsH obs' p).live=true→(β' p).has g→(M g∨w0.heap.size≤g)∧g<w'.heap.size∧¬S2 g∧((∃k,k∈perm∧(H k).live=true∧(β k).has g)∨w.heap.size≤g):=by
  intro p g hl hg
  obtain⟨q1,q2,q3⟩:=hc.own p g hl hg
  have q4:(∃k,k∈perm∧(H k).live=true∧(β k).has g)∨w.heap.size≤g:=q1.imp (mof g) id
  refine⟨?_,q2,?_,q4⟩
  · rcases q4 with ⟨k,_,r1,r2⟩ | q4
    · exact (h.own k g r1 r2).1
    · exact .inr (Nat.le_trans h.fr.size q4)
  · rintro (e | ⟨e,_⟩)
    · exact q3 (hc.s0 g (hS g e))
    · exact q3 e
 refine⟨S2,β2,⟨⟨hc.fr.os.trans h.fr.os,hc.fr.tape.trans h.fr.tape,hc.fr.output.trans h.fr.output,Nat.le_trans h.fr.size hc.fr.size,fun b hb hm => ?_,Nat.le_trans h.fr.drawn hc.fr.drawn⟩,fun b hb=>.inl (h.s0 b hb),?_,?_,?_,?_,h.gl.mono hext.hS⟩,VL.reN hs v [u] hvl,hext⟩
 · refine (hblk b (Nat.lt_of_lt_of_le hb h.fr.size) fun k _ hl hg => ?_).trans (h.fr.block b hb hm)
   rcases (h.own k b hl hg).1 with e | e
   · exact hm e
   · omega
 · intro b hb
   rcases hb with hb | ⟨hb,hb2⟩
   · exact⟨Nat.lt_of_lt_of_le (h.sS b hb).1 hc.fr.size,(h.sS b hb).2⟩
   · exact⟨(hc.sS b hb).1,.inr (Nat.le_trans h.fr.size hb2)⟩
 · intro k g hl hg
   rcases part k with hp | hp | ⟨h1,h2⟩
   · obtain⟨p,_,q1,q2,_⟩:=inn k (.inl hp)
     rw[q1,lvn] at hl
     rw[q2] at hg
     obtain⟨r1,r2,r3,_⟩:=hown p g hl hg
     exact⟨r1,r2,r3⟩
   · obtain⟨p,_,q1,q2,_⟩:=inn k (.inr hp)
     rw[q1,lvn] at hl
     rw[q2] at hg
     obtain⟨r1,r2,r3,_⟩:=hown p g hl hg
     exact⟨r1,r2,r3⟩
   · rw[hC k h1 h2] at hl
     rw[hβC k h1 h2] at hg
     obtain⟨q1,q2,q3⟩:=h.own k g hl hg
     refine⟨q1,Nat.lt_of_lt_of_le q2 hc.fr.size,?_⟩
     rintro (e | ⟨_,e⟩)
     · exact q3 e
     · omega
 · intro k k' g hl hl' hg hg'
   have cross:∀a b,((∃p:Nat,perm[p]? = some a)∨(∃j,j<m∧a=nid+j))→(b∉perm∧¬(nid≤b∧b<nid+m))→(H2 a).live=true→(H2 b).live=true→(β2 a).has g→(β2 b).has g→False:=by
    intro a b ha hb l1 l2 g1 g2
    obtain⟨p,_,q1,q2,_⟩:=inn a ha
    rw[q1,lvn] at l1
    rw[q2] at g1
    rw[hC b hb.1 hb.2] at l2
    rw[hβC b hb.1 hb.2] at g2
    have hlt:=(h.own b g l2 g2).2.1
    rcases (hown p g l1 g1).2.2.2 with ⟨k,r1,r2,r3⟩ | r
    · have:=h.dis k b g r2 l2 r3 g2
      subst this
      exact hb.1 r1
    · omega
   have both:∀a b,((∃p:Nat,perm[p]? = some a)∨(∃j,j<m∧a=nid+j))→((∃p:Nat,perm[p]? = some b)∨(∃j,j<m∧b=nid+j))→(H2 a).live=true→(H2 b).live=true→(β2 a).has g→(β2 b).has g→a=b:=by
    intro a b ha hb l1 l2 g1 g2
    obtain⟨p,_,q1,q2,q3⟩:=inn a ha
    obtain⟨p',_,q1',q2',q3'⟩:=inn b hb
    rw[q1,lvn] at l1
    rw[q2] at g1
    rw[q1',lvn] at l2
    rw[q2'] at g2
    have:=hc.dis p p' g l1 l2 g1 g2
    subst this
    rw[←q3,←q3']
   rcases part k with hp | hp | hp<;>rcases part k' with hp' | hp' | hp'
   · exact both k k' (.inl hp) (.inl hp') hl hl' hg hg'
   · exact both k k' (.inl hp) (.inr hp') hl hl' hg hg'
   · exact (cross k k' (.inl hp) hp' hl hl' hg hg').elim
   · exact both k k' (.inr hp) (.inl hp') hl hl' hg hg'
   · exact both k k' (.inr hp) (.inr hp') hl hl' hg hg'
   · exact (cross k k' (.inr hp) hp' hl hl' hg hg').elim
   · exact (cross k' k (.inl hp') hp hl' hl hg' hg).elim
   · exact (cross k' k (.inr hp') hp hl' hl hg' hg).elim
   · rw[hC k hp.1 hp.2] at hl
     rw[hβC k hp.1 hp.2] at hg
     rw[hC k' hp'.1 hp'.2] at hl'
     rw[hβC k' hp'.1 hp'.2] at hg'
     exact h.dis k k' g hl hl' hg hg'
 · intro k
   have fin:((∃p:Nat,perm[p]? = some k)∨(∃j,j<m∧k=nid+j))→ObR S2 w' β2 H2 (β2 k) (H2 k):=by
    intro hp
    obtain⟨p,_,q1,q2,_⟩:=inn k hp
    rw[q1,q2]
    exact ObR.reN hs _ _ (hob p)
   rcases part k with hp | hp | ⟨h1,h2⟩
   · exact fin (.inl hp)
   · exact fin (.inr hp)
   · rw[hC k h1 h2,hβC k h1 h2]
     by_cases hl:(H k).live=true
     · refine ObR.ext hext _ _ (fun g hg=>hblk g (h.own k g hl hg).2.1 fun k' hk' l' g' => ?_) (h.ob k)
       have:=h.dis k k' g hl l' hg g'
       subst this
       exact h1 hk'
     · exact ObR.idle (by simpa using hl)
theorem run_enter {g:FuncId} {fn:Func} (hf:P.funcs[g]? = some fn) (hname:(fn.name == "runtime.NumGoroutine")=false) (hb:fn.body.isNone=false) (args:Array Value):(callFunc g args).run P w=.ok (.enter g args) w:=by
 have h1:fn.name ≠ "runtime.NumGoroutine" := by simpa using hname
 have h2:¬fn.body=none:=by
  intro e
  rw[e] at hb
  cases hb
 simp[callFunc,hf,h1,h2]
theorem lookup_newsN (f:Nat→Nat):∀(news:List Ob) (n k:Nat),((news.zipIdx n).map fun p=>(p.2,p.1.reN f)).lookup k=if n≤k∧k<n+news.length then some ((news.getD (k-n) .none).reN f) else none
 | [],n,k=>by
  simp only[List.zipIdx_nil,List.map_nil,List.lookup_nil,List.length_nil]
  rw[if_neg (by omega)]
 | x::l,n,k=>by
  simp only[List.zipIdx_cons,List.map_cons,List.lookup]
  by_cases h:k=n
  · subst h
    simp
  · have e:(k==n)=false:=by simpa using h
    simp only[e]
    rw[lookup_newsN f l (n+1) k]
    by_cases h2:n+1≤k∧k<n+1+l.length
    · rw[if_pos h2,if_pos (by simp only[List.length_cons];omega)]
      congr 2
      rw[show k-n=(k-(n+1))+1 by omega]
      simp
    · rw[if_neg h2,if_neg (by simp only[List.length_cons];omega)]
theorem lookup_olds_out (f:Nat→Nat):∀(perm:List Nat) (olds:List (Option Ob)) (k:Nat),k∉perm→(oldsUpd f perm olds).lookup k=none
 | [],olds,k,_=>by cases olds<;>rfl
 | x::l,[],k,_=>rfl
 | x::l,none::m,k,h=>lookup_olds_out f l m k fun hk=>h (by simp[hk])
 | x::l,some o::m,k,h=>by
  have e:(k==x)=false:=by
   have:k≠x:=fun e=>h (by simp[e])
   simpa using this
  simp only[oldsUpd,List.lookup,e]
  exact lookup_olds_out f l m k fun hk=>h (by simp[hk])
theorem lookup_olds (f:Nat→Nat):∀(perm:List Nat) (olds:List (Option Ob)) (p k:Nat),perm.Nodup→perm[p]? = some k→(oldsUpd f perm olds).lookup k=((olds[p]?).bind id).map (Ob.reN f)
 | [],olds,p,k,_,h=>by simp at h
 | x::l,[],p,k,_,_=>rfl
 | x::l,o::m,0,k,hn,h=>by
  simp only[List.getElem?_cons_zero,Option.some.injEq] at h
  subst h
  obtain⟨h1,_⟩:=List.nodup_cons.1 hn
  cases o with
  | none=>exact lookup_olds_out f l m x h1
  | some o=>simp[oldsUpd,List.lookup]
 | x::l,o::m,p+1,k,hn,h=>by
  obtain⟨h1,h2⟩:=List.nodup_cons.1 hn
  simp only[List.getElem?_cons_succ] at h ⊢
  have ih:=lookup_olds f l m p k h2 h
  cases o with
  | none=>exact ih
  | some o=>
   have e:(k==x)=false:=by
    have:k≠x:=fun e=>h1 (by rw[←e];exact List.mem_of_getElem? h)
    simpa using this
   simp only[oldsUpd,List.lookup,e]
   exact ih
theorem oldsOk_len:∀(obs:List Ob) (olds:List (Option Ob)),oldsOk obs olds=true→olds.length=obs.length
 | [],[],_=>rfl
 | [],_::_,h=>by simp[oldsOk] at h
 | _::_,[],h=>by simp[oldsOk] at h
 | _::l,none::m,h=>by simp only[List.length_cons,oldsOk_len l m h]
 | _::l,some _::m,h=>by
  simp only[oldsOk,Bool.and_eq_true] at h
  simp only[List.length_cons,oldsOk_len l m h.2]
theorem finObs_len:∀(obs:List Ob) (olds:List (Option Ob)) (news:List Ob),olds.length=obs.length→(finObs obs olds news).length=obs.length+news.length
 | [],[],news,_=>by simp[finObs]
 | o::l,none::m,news,h=>by simp only[finObs,List.length_cons,finObs_len l m news (by simpa using h)];omega
 | o::l,some o'::m,news,h=>by simp only[finObs,List.length_cons,finObs_len l m news (by simpa using h)];omega
theorem finObs_old:∀(obs:List Ob) (olds:List (Option Ob)) (news:List Ob) (p:Nat),olds.length=obs.length→p<obs.length→newsH (finObs obs olds news) p=((olds[p]?).bind id).getD (newsH obs p)
 | [],[],news,p,_,h=>by simp at h
 | o::l,none::m,news,0,_,_=>rfl
 | o::l,some o'::m,news,0,_,_=>rfl
 | o::l,none::m,news,p+1,h,hp=>finObs_old l m news p (by simpa using h) (by simpa using hp)
 | o::l,some o'::m,news,p+1,h,hp=>finObs_old l m news p (by simpa using h) (by simpa using hp)
theorem finObs_new:∀(obs:List Ob) (olds:List (Option Ob)) (news:List Ob) (j:Nat),olds.length=obs.length→newsH (finObs obs olds news) (obs.length+j)=newsH news j
 | [],[],news,j,_=>by simp[finObs]
 | o::l,none::m,news,j,h=>by
  have:=finObs_new l m news j (by simpa using h)
  rw[List.length_cons,show l.length+1+j=(l.length+j)+1 by omega]
  exact this
 | o::l,some o'::m,news,j,h=>by
  have:=finObs_new l m news j (by simpa using h)
  rw[List.length_cons,show l.length+1+j=(l.length+j)+1 by omega]
  exact this
theorem olds_in (H:Nat→Ob) (perm:List Nat):∀(l:List Nat) (m:List (Option Ob)) (i k:Nat),oldsIn H perm l m=true→l[i]? = some k→m[i]? = some none→∀j∈(H k).refs,j∈perm
 | [],_,i,k,_,h,_=>by simp at h
 | _::_,[],i,k,_,_,h=>by simp at h
 | x::l,none::m,0,k,h,h1,h2=>by
  simp only[oldsIn,Bool.and_eq_true] at h
  simp at h1
  subst h1
  intro j hj
  have:=List.all_eq_true.1 h.1 j hj
  simpa using this
 | x::l,some o::m,0,k,h,h1,h2=>by simp at h2
 | x::l,none::m,i+1,k,h,h1,h2=>by
  simp only[oldsIn,Bool.and_eq_true] at h
  exact olds_in H perm l m i k h.2 (by simpa using h1) (by simpa using h2)
 | x::l,some o::m,i+1,k,h,h1,h2=>olds_in H perm l m i k h (by simpa using h1) (by simpa using h2)
theorem ren_back {perm:List Nat} {f:Nat→Nat} (hf:∀p k,perm[p]? = some k→f p=k):∀a:AV,(∀k∈a.refs,k∈perm)→(a.ren perm).reN f=a:=by
 have hp:∀k,k∈perm→∃p,posOf perm k 0=some p∧f p=k:=by
  intro k hk
  cases e:posOf perm k 0 with
  | none=>exact absurd e (posOf_some perm k 0 hk)
  | some p=>
   obtain⟨j,rfl,e2⟩:=posOf_get _ _ _ _ e
   exact⟨_,rfl,by rw[Nat.zero_add];exact hf j k e2⟩
 intro a
 induction a with
 | ptr k off=>intro h;obtain⟨p,e1,e2⟩:=hp k (h k (by simp[AV.refs]));simp only[AV.ren,e1,AV.reN,e2]
 | row k=>intro h;obtain⟨p,e1,e2⟩:=hp k (h k (by simp[AV.refs]));simp only[AV.ren,e1,AV.reN,e2]
 | rptr k i off=>intro h;obtain⟨p,e1,e2⟩:=hp k (h k (by simp[AV.refs]));simp only[AV.ren,e1,AV.reN,e2]
 | view k lo n e t=>intro h;obtain⟨p,e1,e2⟩:=hp k (h k (by simp[AV.refs]));simp only[AV.ren,e1,AV.reN,e2]
 | prow k=>intro h;obtain⟨p,e1,e2⟩:=hp k (h k (by simp[AV.refs]));simp only[AV.ren,e1,AV.reN,e2]
 | pptr k i=>intro h;obtain⟨p,e1,e2⟩:=hp k (h k (by simp[AV.refs]));simp only[AV.ren,e1,AV.reN,e2]
 | mp k=>intro h;obtain⟨p,e1,e2⟩:=hp k (h k (by simp[AV.refs]));simp only[AV.ren,e1,AV.reN,e2]
 | nptr k=>intro h;obtain⟨p,e1,e2⟩:=hp k (h k (by simp[AV.refs]));simp only[AV.ren,e1,AV.reN,e2]
 | itr k=>intro h;obtain⟨p,e1,e2⟩:=hp k (h k (by simp[AV.refs]));simp only[AV.ren,e1,AV.reN,e2]
 | agg c ih=>intro h;simp only[AV.ren,AV.reN,ih h]
 | tuple c ih=>intro h;simp only[AV.ren,AV.reN,ih h]
 | fn g x y ih1 ih2=>intro h;simp only[AV.ren,AV.reN,ih1 fun k hk=>h k (by simp[AV.refs,hk]),ih2 fun k hk=>h k (by simp[AV.refs,hk])]
 | iface t v ih=>intro h;simp only[AV.ren,AV.reN,ih h]
 | cons x y ih1 ih2=>intro h;simp only[AV.ren,AV.reN,ih1 fun k hk=>h k (by simp[AV.refs,hk]),ih2 fun k hk=>h k (by simp[AV.refs,hk])]
 | _=>intro _;rfl
theorem ren_backO {perm:List Nat} {f:Nat→Nat} (hf:∀p k,perm[p]? = some k→f p=k) (o:Ob) (h:∀k∈o.refs,k∈perm):(o.ren perm).reN f=o:=by
 cases o with
 | none=>rfl
 | dead=>rfl
 | row e t xs=>rfl
 | cells e cs=>
  simp only[Ob.ren,Ob.reN,List.map_map]
  congr 1
  conv=>rhs;rw[←List.map_id cs]
  exact List.map_congr_left fun a ha=>ren_back hf a fun k hk=>h k (List.mem_flatMap.2 ⟨a,ha,hk⟩)
 | prow e cs=>
  simp only[Ob.ren,Ob.reN,List.map_map]
  congr 1
  conv=>rhs;rw[←List.map_id cs]
  exact List.map_congr_left fun a ha=>ren_back hf a fun k hk=>h k (List.mem_flatMap.2 ⟨a,ha,hk⟩)
 | map ag t es=>rfl
 | orow e t xs=>rfl
 | hrow e t xs i off=>rfl
 | mit m n seen cur=>
  have hm:=h m (by simp[Ob.refs])
  simp only[Ob.ren,Ob.reN]
  cases e:posOf perm m 0 with
  | none=>exact absurd e (posOf_some perm m 0 hm)
  | some p=>
   obtain⟨j,rfl,e2⟩:=posOf_get _ _ _ _ e
   simp only[Ob.reN,Nat.zero_add,hf j m e2]
theorem addNew_live {H:Nat→Ob}:∀(l acc:List Nat),(∀k∈acc,(H k).live=true)→(∀k∈l,(H k).live=true)→∀k∈addNew acc l,(H k).live=true:=fun l acc h1 h2 k hk=>(addNew_mem l acc k hk).elim (h1 k) (h2 k)
theorem reachH_live {H:Nat→Ob}:∀(f:Nat) (l acc:List Nat),(∀k∈acc,(H k).live=true)→∀k∈reachH H f l acc,(H k).live=true
 | 0,_,_,h=>h
 | f+1,[],_,h=>h
 | f+1,x::l,acc,h=>by
  simp only[reachH]
  exact reachH_live f _ _ (addNew_live _ _ h fun k hk=>by
   have:=(List.mem_filter.1 hk).2
   exact this)
def vOf (pn:Option Value) (v:AV):AV:=match pn with
 | none=>v
 | some _=>.undef
theorem call2_core {env:Env} {c0:Call} {fo:Operand} {pn:Option Value} (hC2:∀g args obs t,env.two g args obs=some t→(∀p∈t.pre,p)→ACalls2 P g args obs (vOf pn t.v) (finObs obs t.olds t.news) pn) (ho:o.op=.call c0) (hcal:c0.callee=.value fo) (c:Cx P T M S0 w0 S β H w a ev nid r) {g:FuncId} {p q:List Value} {args:List AV} (e1:a.eval fo=.func (.func g) p.toArray q.toArray)
 (va:VLs S w β H args (p++c0.args.toList.map a.eval++q)) {lends:Bool} (hs:semCall2 env H nid g args lends=some r) (next:Act→World→Prop) (Q:Exit→Act→World→Prop)
 (hnx:pn=none→∀v w' S' β',Rel M S0 w0 S' β' (updH H r.upd) w'→VL S' w' β' (updH H r.upd) r.v [v]→Ext S w β H S' w' β' (updH H r.upd)→next (a.put o.dst v) w')
 (hpx:∀x,pn=some x→∀w' S' β',Rel M S0 w0 S' β' (updH H r.upd) w'→Ext S w β H S' w' β' (updH H r.upd)→Q (.panic [{v:=x,recovered:=false}]) a w'):o.wp P a w next Q:=by
 unfold semCall2 at hs
 have hl:(∀k∈(bif lends then args.flatMap AV.rowRefs else []),True):=fun _ _=>trivial
 have step:∀(as1:List AV) (lent:List Nat),(bif lends then args.map (AV.lendR H) else args)=as1→(bif lends then args.flatMap AV.rowRefs else [])=lent →
  VLs (fun b=>S b∨∃k,k∈lent∧(H k).live=true∧(β k).g=some b) w β H as1 (p++c0.args.toList.map a.eval++q):=by
  intro as1 lent h1 h2
  subst h1
  subst h2
  cases lends with
  | true=>exact lendsR_of c.rel (fun b hb=>.inl hb) _ _ (fun k hk g h1 h2=>.inr ⟨k,hk,h1,h2⟩) va
  | false=>exact VLs.ext (Ext.wide fun b hb=>.inl hb) _ _ va
 simp only at hs
 generalize h1:(bif lends then args.map (AV.lendR H) else args)=as1 at hs step
 generalize h2:(bif lends then args.flatMap AV.rowRefs else [])=lent at hs step
 have va1:=step as1 lent rfl rfl
 have hlive:∀k∈reachH H 8 (as1.flatMap AV.refs) [],(H k).live=true:=reachH_live 8 _ [] (by simp)
 generalize reachH H 8 (as1.flatMap AV.refs) []=perm at hs hlive
 cases hb:(nodupB perm&&(perm.all fun k=>(H k).noIt)&&lent.all fun k => !perm.contains k) with
 | false=>rw[hb] at hs;cases hs
 | true=>
 rw[hb] at hs
 simp only[cond_true] at hs
 simp only[Bool.and_eq_true,List.all_eq_true,Bool.not_eq_true'] at hb
 obtain⟨⟨hb1,hb0⟩,hb2⟩:=hb
 have hn:=nodup_of _ hb1
 split at hs
 · cases hs
 rename_i t henv
 cases hb3:(oldsOk (perm.map fun k=>(H k).ren perm) t.olds&&oldsIn H perm perm t.olds&&(lent.isEmpty||(t.v.noList&&(finObs (perm.map fun k=>(H k).ren perm) t.olds t.news).all Ob.noList))) with
 | false=>rw[hb3] at hs;cases hs
 | true=>
 rw[hb3] at hs
 simp only[cond_true,Option.some.injEq] at hs
 simp only[Bool.and_eq_true,Bool.or_eq_true] at hb3
 obtain⟨⟨k1,k2⟩,k3⟩:=hb3
 have hol:=oldsOk_len _ _ k1
 rw[List.length_map] at hol
 have hol':t.olds.length=(perm.map fun k=>(H k).ren perm).length:=by rw[List.length_map];exact hol
 have hpre:∀p∈t.pre,p:=fun p hp=>c.hgs p (by rw[←hs];exact List.mem_append_left _ hp)
 have heq:∀p∈oldsEq (perm.map fun k=>(H k).ren perm) t.olds,p:=fun p hp=>c.hgs p (by rw[←hs];exact List.mem_append_right _ hp)
 obtain⟨⟨fn,f1,f2,f3⟩,hrun⟩:=hC2 g _ _ _ henv hpre
 have hS1:∀b,(S b∨∃k,k∈lent∧(H k).live=true∧(β k).g=some b)→S b∨∃k,k∉perm∧(H k).live=true∧(β k).g=some b:=by
  rintro b (hb | ⟨k,q1,q2,q3⟩)
  · exact .inl hb
  · exact .inr ⟨k,fun hk=>by have:=hb2 k q1;simp[hk] at this,q2,q3⟩
 have hhand:=c.rel.hand hn (S1:=fun b=>S b∨∃k,k∈lent∧(H k).live=true∧(β k).g=some b) (fun b hb=>.inl hb) hS1
 have hva2:=VLs.ren (perm:=perm) _ _ va1
 rw[←newsH_ren] at hva2
 have hcalls:=hrun _ _ w _ hhand hva2
 unfold Oper.wp execOp
 have eargs:p.toArray++c0.args.map a.eval++q.toArray=(p++c0.args.toList.map a.eval++q).toArray:=by
  apply Array.toList_inj.1
  simp
 simp only[ho,hcal,resolve,invoke,e1,Deferred.ofValue,Sem.run_bind,Sem.run_pure,Result.andThen_ok,eargs,run_enter f1 f2 f3]
 rw[Oper.upon_enter]
 refine Calls.mono hcalls ?_
 rintro e w' ⟨u,rfl,S',β',hrel,hv,hx⟩
 have hfin:=finObs_len _ _ t.news hol'
 rw[List.length_map] at hfin
 have hnp:∀j,j<t.news.length→H (nid+j)=.none:=by
  intro j hj
  refine c.hnid (nid+j,(t.news.getD j .none).reN fun p=>perm.getD p (nid+(p-perm.length))) ?_ (by simp)
  rw[←hs]
  refine List.mem_append_right _ (List.mem_map.2 ⟨(t.news.getD j .none,nid+j),?_,rfl⟩)
  rw[List.mk_mem_zipIdx_iff_le_and_getElem?_sub]
  refine⟨by omega,?_⟩
  rw[Nat.add_sub_cancel_left]
  simp only[List.getD]
  rw[List.getElem?_eq_getElem hj]
  rfl
 have hf1:∀(p k:Nat),perm[p]? = some k→(fun p=>perm.getD p (nid+(p-perm.length))) p=k:=by
  intro p k hk
  simp only[List.getD,hk,Option.getD_some]
 have hf2:∀j,(fun p=>perm.getD p (nid+(p-perm.length))) (perm.length+j)=nid+j:=by
  intro j
  simp only[List.getD]
  rw[List.getElem?_eq_none (by omega),Option.getD_none]
  omega
 have hupd:∀k,updH H (oldsUpd (fun p=>perm.getD p (nid+(p-perm.length))) perm t.olds++(t.news.zipIdx nid).map fun p=>(p.2,p.1.reN fun p=>perm.getD p (nid+(p-perm.length)))) k=(((oldsUpd (fun p=>perm.getD p (nid+(p-perm.length))) perm t.olds).lookup k).or (if nid≤k∧k<nid+t.news.length then some ((t.news.getD (k-nid) .none).reN fun p=>perm.getD p (nid+(p-perm.length))) else none)).getD (H k):=by
  intro k
  unfold updH
  rw[List.lookup_append,lookup_newsN]
 have hnotin:∀k,k∈perm→¬(nid≤k∧k<nid+t.news.length):=by
  intro k hk hh
  have h1:=hlive k hk
  have h2:=hnp (k-nid) (by omega)
  rw[show nid+(k-nid)=k by omega] at h2
  rw[h2] at h1
  cases h1
 have hA:∀(p k:Nat),perm[p]? = some k→updH H (oldsUpd (fun p=>perm.getD p (nid+(p-perm.length))) perm t.olds++(t.news.zipIdx nid).map fun p=>(p.2,p.1.reN fun p=>perm.getD p (nid+(p-perm.length)))) k=(newsH (finObs (perm.map fun k=>(H k).ren perm) t.olds t.news) p).reN fun p=>perm.getD p (nid+(p-perm.length)):=by
  intro p k hk
  have hlt:=(List.getElem?_eq_some_iff.1 hk).1
  rw[hupd,lookup_olds _ _ _ _ _ hn hk,if_neg (hnotin k (List.mem_of_getElem? hk)),finObs_old _ _ _ _ hol' (by rw[List.length_map];exact hlt)]
  cases e:t.olds[p]? with
  | none=>rw[List.getElem?_eq_none_iff] at e;omega
  | some x=>
   cases x with
   | some y=>rfl
   | none=>
    have hin:=olds_in H perm perm t.olds p k k2 hk e
    simp only[Option.bind_some,id,Option.map_none,Option.or,Option.getD_none]
    rw[newsH_ren]
    simp only[renH,hk]
    exact (ren_backO hf1 (H k) hin).symm
 obtain⟨S2,β2,g1,g2,g3⟩:=c.rel.call2 (nid:=nid) (S1:=fun b=>S b∨∃k,k∈lent∧(H k).live=true∧(β k).g=some b) (m:=t.news.length) hn (fun b hb=>.inl hb) hf1 hf2 hfin hrel hv (fun i hi=>by
  have:=hx i (by rw[List.length_map];exact hi)
  rw[newsH_ren] at this
  exact this) hlive hnp hA (fun j hj=>by
  rw[hupd,lookup_olds_out _ _ _ _ (fun hk=>by have:=hlive _ hk;rw[hnp j hj] at this;cases this),if_pos ⟨by omega,by omega⟩,Nat.add_sub_cancel_left]
  have:=finObs_new (perm.map fun k=>(H k).ren perm) t.olds t.news j hol'
  rw[List.length_map] at this
  rw[this]
  rfl) (fun k h1 h2=>by
  rw[hupd,lookup_olds_out _ _ _ _ h1,if_neg h2]
  rfl) (by
  rcases k3 with k3 | k3
  · refine .inr fun b hb => ?_
    rcases hb with hb | ⟨k,hk,_⟩
    · exact hb
    · rw[List.isEmpty_iff.1 k3] at hk;cases hk
  · exact .inl ⟨by cases pn<;>first | exact k3.1 | rfl,k3.2⟩)
 subst hs
 cases pn with
 | none=>exact hnx rfl u w' S2 β2 g1 g2 g3
 | some x=>exact hpx x rfl w' S2 β2 g1 g3
theorem s_call2 {c0:Call} {fo:Operand} (he:EnvOk P env) (ho:o.op=.call c0) (hcal:c0.callee=.value fo) (c:Cx P T M S0 w0 S β H w a ev nid r) {g:FuncId} {p q:List Value} {args:List AV} (e1:a.eval fo=.func (.func g) p.toArray q.toArray)
 (va:VLs S w β H args (p++c0.args.toList.map a.eval++q)) {lends:Bool} (hs:semCall2 env H nid g args lends=some r):Goes P M S0 w0 S β H w o a r:=fun next Q hn=>
 call2_core (pn:=none) he.two ho hcal c e1 va hs next Q (fun _=>hn) (fun x h=>by cases h)
theorem s_call {c0:Call} {f:Operand} (he:EnvOk P env) (ho:o.op=.call c0) (hcal:c0.callee=.value f) (c:Cx P T M S0 w0 S β H w a ev nid r) (hs:semOp T env ev H nid o=some r):Goes P M S0 w0 S β H w o a r:=by
 simp only[semOp,ho,hcal] at hs
 have hf:=c.hev f
 unfold semCall at hs
 split at hs
 rotate_left
 · cases hs
 rename_i g x y hfv
 rw[hfv] at hf
 split at hs
 rotate_left
 · cases hs
 rename_i hch
 simp only[Bool.and_eq_true] at hch
 simp only at hs
 obtain⟨p,q,e1,h1,h2⟩:=hf
 simp only[List.cons.injEq,and_true] at e1
 have v1:=VL.list_of x p hch.1 h1
 have v2:=VL.list_of y q hch.2 h2
 have vm:∀(l:List Operand) (n:Nat),VLs S w β H (((l.map ev).zipIdx n).map fun p=>typed T (c0.argTypes.toList.getD p.2 0) p.1) (l.map a.eval):=by
  intro l
  induction l with
  | nil=>intro n;exact rfl
  | cons z l ih=>intro n;exact⟨_,_,rfl,VL.typed (c.hev z),ih (n+1)⟩
 have va:=VLs.append _ _ _ _ (VLs.append _ _ _ _ v1 (vm c0.args.toList 0)) v2
 split at hs
 rotate_left
 · split at hs
   · rename_i r' hr
     cases hs
     exact s_call2 he ho hcal c e1 va hr
   · rename_i hr
     exact s_call2 he ho hcal c e1 va hs
 rename_i told henv
 split at hs
 rotate_left
 · cases hs
 rename_i hcase
 simp only[Option.some.injEq] at hs
 have hpre:∀p∈told.pre,p:=fun p hp=>c.hgs p (by rw[←hs];exact hp)
 obtain⟨⟨fn,k1,k2,k3⟩,hrun⟩:=he.one g _ _ henv hpre
 let S1:Nat→Prop:=fun b=>S b∨((x.toList++((c0.args.toList.map ev).zipIdx.map fun p=>typed T (c0.argTypes.toList.getD p.2 0) p.1)++y.toList).any AV.hasRow=true∧∃k,(H k).live=true∧(β k).g=some b)
 have hl:=lends_of (S1:=S1) c.rel (fun b hb=>.inl hb) _ _ (fun hh k g hk hg=>.inr ⟨hh,k,hk,hg⟩) va
 have hcalls:=hrun S1 w _ (by
  intro b hb
  rcases hb with hb | ⟨_,k,hk,hg⟩
  · exact (c.rel.sS b hb).1
  · exact (c.rel.own k b hk (.inl hg)).2.1) (c.rel.gl.mono fun b hb=>⟨.inl hb,rfl⟩) hl
 intro next Q hn
 unfold Oper.wp execOp
 have eargs:p.toArray++c0.args.map a.eval++q.toArray=(p++c0.args.toList.map a.eval++q).toArray:=by
  apply Array.toList_inj.1
  simp
 simp only[ho,hcal,resolve,invoke,e1,Deferred.ofValue,Sem.run_bind,Sem.run_pure,Result.andThen_ok,eargs,run_enter k1 k2 k3]
 rw[Oper.upon_enter]
 refine Calls.mono hcalls ?_
 rintro e w' ⟨u,rfl,S',β',hrel,hv⟩
 simp only[Bool.or_eq_true,Bool.and_eq_true,Bool.not_eq_true'] at hcase
 obtain⟨S2,β2,g1,g2,g3⟩:=c.rel.call (nid:=nid) (S1:=S1) hrel hv (by
  intro k hk1 hk2
  obtain⟨j,hj⟩:∃j,k=nid+j:=⟨k-nid,by omega⟩
  have hmem:(k,(told.news.getD j .none).shift nid)∈r.upd:=by
   rw[←hs]
   simp only[List.mem_map]
   refine⟨(told.news.getD j .none,k),?_,rfl⟩
   rw[List.mk_mem_zipIdx_iff_le_and_getElem?_sub]
   refine⟨hk1,?_⟩
   rw[hj,Nat.add_sub_cancel_left]
   simp only[List.getD]
   rw[List.getElem?_eq_getElem (by omega)]
   rfl
  exact c.hnid _ hmem hk1) (by
  rcases hcase with hcase | hcase
  · exact .inl hcase
  · refine .inr fun b hb => ?_
    rcases hb with hb | ⟨hb,_⟩
    · exact hb
    · rw[hcase] at hb;cases hb)
 subst hs
 exact hn u w' S2 β2 g1 g2 g3
theorem semOp_sound (he:EnvOk P env) (c:Cx P T M S0 w0 S β H w a ev nid r) (hs:semOp T env ev H nid o=some r):Goes P M S0 w0 S β H w o a r:=by
 cases ho:o.op
 case move x=>exact s_move ho c hs
 case assign x=>exact s_assign ho c hs
 case pick x y z=>exact s_pick ho c hs
 case alloc t=>exact s_alloc ho c hs
 case box t x=>exact s_box ho c hs
 case build t ps=>exact s_build ho c hs
 case buildSlice t n ps=>exact s_buildSlice ho c hs
 case load t x=>exact s_load ho c hs
 case store t x y=>exact s_store ho c hs
 case nilCheck x=>exact s_nilCheck ho c hs
 case binOp op t x y t'=>exact s_bin ho c hs
 case unOp op t x=>exact s_un ho c hs
 case convert s d x=>exact s_convert ho c hs fun e h1 h2 h3 h4=>s_bytes ho c h1 h2 h3 h4
 case fieldAddr s x f=>exact s_fieldAddr ho c hs
 case field s x f=>exact s_field ho c hs
 case indexAddr t x i=>exact s_indexAddr ho c hs
 case index t x i=>exact s_index ho c hs
 case extract x i=>exact s_extract ho c hs
 case makeInterface t x=>exact s_makeInterface ho c hs
 case makeFunc f x y=>exact s_makeFunc ho c hs
 case makeSlice t x y=>exact s_makeSlice ho c hs
 case makeMap t x=>exact s_makeMap ho c hs
 case lookup t x i b=>
  cases b with
  | true=>unfold semOp at hs;rw[ho] at hs;cases hs
  | false=>exact s_lookup ho c hs
 case mapUpdate t x i y=>exact s_mapUpdate ho c hs
 case mapEntry t x i=>exact s_mapEntry ho c hs
 case entryStore t x i y=>exact s_entryStore ho c hs
 case range t x=>exact s_range ho c hs
 case entry x=>exact s_entry ho c hs
 case slice t x lo hi mx=>
  cases mx with
  | none=>exact s_slice ho c hs
  | some m=>
   cases lo with
   | none=>unfold semOp at hs;rw[ho] at hs;cases hs
   | some l=>
    cases hi with
    | none=>unfold semOp at hs;rw[ho] at hs;cases hs
    | some h=>exact s_slice3 ho c hs
 case call c0=>
  cases hc:c0.callee
  case builtin b=>exact s_builtin ho hc c hs
  case value f=>exact s_call he ho hc c hs
  case invoke x n=>unfold semOp at hs;rw[ho] at hs;simp only[hc] at hs;cases hs
 all_goals (unfold semOp at hs;rw[ho] at hs;cases hs)
end
end Go.Proofs.YtkpjcmiijlpcaaaDoor.Aw
