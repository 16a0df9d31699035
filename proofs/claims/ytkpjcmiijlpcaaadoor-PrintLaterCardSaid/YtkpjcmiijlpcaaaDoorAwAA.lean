/- An abstract program logic over the model, twentieth part: a state put in order where a loo. -/
import Derived.Test.YtkpjcmiijlpcaaaDoorAwS
namespace Go.Proofs.YtkpjcmiijlpcaaaDoor.Aw
open Go
def keepL (live:List Nat):List AV→Nat→List AV
 | [],_=>[]
 | a::l,i=>(bif live.contains i then a else .undef)::keepL live l (i+1)
def empRow (e:TypeId) (t:Ty):Ob:=bif t.noOl then .row e t [] else .orow e t []
def promo:List AV→Nat→List AV×List Ob
 | [],_=>([],[])
 | .nils e t::l,n=>((.row n)::(promo l (n+1)).1,empRow e t::(promo l (n+1)).2)
 | a::l,n=>(a::(promo l n).1,(promo l n).2)
def promoO:List Ob→Nat→List Ob×List Ob
 | [],_=>([],[])
 | .cells e cs::l,n=>(.cells e (promo cs n).1::(promoO l (n+(promo cs n).2.length)).1,(promo cs n).2++(promoO l (n+(promo cs n).2.length)).2)
 | o::l,n=>(o::(promoO l n).1,(promoO l n).2)
def St.tidy (live:List Nat) (s:St):St:=
 let p:=promo (keepL live s.slots 0) s.obs.length
 let q:=promoO s.obs (s.obs.length+p.2.length)
 let obs:=q.1++(p.2++q.2)
 let H:=fun k=>obs.getD k .none
 let perm:=reachH H 5 ((List.range s.n).flatMap (fun k=>(H k).refs)++p.1.flatMap AV.refs) (List.range s.n)
 bif nodupB perm then ⟨p.1.map (AV.ren perm),perm.map fun k=>(H k).ren perm,s.n,s.y,s.stop⟩ else s
section
variable {P:Program} {M S0:Nat→Prop} {w0:World} {π:Pin} {S:Nat→Prop} {β:Nat→Cr} {H:Nat→Ob} {w:World} {a:Act} {sl sl':List AV} {perm:List Nat}
theorem keepL_get (live:List Nat):∀(l:List AV) (i t:Nat),(keepL live l i).getD t .undef=l.getD t .undef∨(keepL live l i).getD t .undef=.undef
 | [],_,_=>.inl rfl
 | x::l,i,0=>by
  simp only[keepL]
  cases live.contains i
  · exact .inr rfl
  · exact .inl rfl
 | x::l,i,t+1=>keepL_get live l (i+1) t
theorem keepL_length (live:List Nat):∀(l:List AV) (i:Nat),(keepL live l i).length=l.length
 | [],_=>rfl
 | _::l,i=>by simp[keepL,keepL_length live l (i+1)]
theorem keep_sound {live:List Nat} {i:Nat} (h:Inv M S0 w0 π sl H S β a w):Inv M S0 w0 π (keepL live sl i) H S β a w:=
 ⟨h.rel,by rw[keepL_length];exact h.len,fun t=>by
  rcases keepL_get live sl i t with e | e
  · rw[e];exact h.sl t
  · rw[e];exact⟨_,rfl,trivial⟩,h.nod,h.pin⟩
theorem promo_length:∀(l:List AV) (n:Nat),(promo l n).1.length=l.length
 | [],_=>rfl
 | x::l,n=>by cases x<;>simp[promo,promo_length l]
theorem emp_leaf {S:Nat→Prop} {w:World} {β:Nat→Cr} {H:Nat→Ob} {S2:Nat→Prop} {w2:World} {β2:Nat→Cr} {H2:Nat→Ob} {k:Nat} {e:TypeId} {t:Ty} {v:Value} (h1:H k=empRow e t) (h2:(β k).g=none) (h3:leaf S2 w2 β2 H2 (.nils e t) v):leaf S w β H (.row k) v:=by
 simp only[leaf] at h3 ⊢
 rw[h1,h3]
 unfold empRow
 cases t.noOl<;>simp only[cond_true,cond_false]<;>unfold rowV<;>rw[h2]
theorem promo_get:∀(l:List AV) (n t:Nat),(promo l n).1.getD t .undef=l.getD t .undef∨∃e ty j,l.getD t .undef=.nils e ty∧(promo l n).1.getD t .undef=.row (n+j)∧(promo l n).2[j]? = some (empRow e ty)
 | [],_,_=>.inl rfl
 | x::l,n,0=>by
  cases x<;>first
   | exact .inl rfl
   | exact .inr ⟨_,_,0,rfl,rfl,rfl⟩
 | x::l,n,t+1=>by
  cases x<;>first
   | exact promo_get l n t
   | (rcases promo_get l (n+1) t with h | ⟨e,ty,j,h1,h2,h3⟩
      · exact .inl h
      · exact .inr ⟨e,ty,j+1,h1,by rw[show n+(j+1)=n+1+j by omega];exact h2,h3⟩)
theorem promo_rows:∀(l:List AV) (n j:Nat) (o:Ob),(promo l n).2[j]? = some o→∃e t,o=empRow e t
 | [],_,_,_,h=>by simp[promo] at h
 | x::l,n,j,o,h=>by
  cases x<;>first
   | exact promo_rows l n j o h
   | (cases j with
      | zero=>simp[promo] at h;exact⟨_,_,h.symm⟩
      | succ j=>exact promo_rows l (n+1) j o h)
theorem promo_vls {β':Nat→Cr} {H':Nat→Ob} (hx:Ext S w β H S w β' H'):∀(l:List AV) (vs:List Value) (n:Nat),(∀j o,(promo l n).2[j]? = some o→H' (n+j)=o∧(β' (n+j)).g=none)→VLs S w β H l vs→VLs S w β' H' (promo l n).1 vs
 | [],_,_,_,hv=>hv
 | a::l,_,n,hn,⟨v,r,e,h1,h2⟩=>by
  by_cases hc:∃e t,a=.nils e t
  · obtain⟨e',t,rfl⟩:=hc
    obtain⟨q1,q2⟩:=hn 0 _ rfl
    refine⟨v,r,e,?_,promo_vls hx l r (n+1) (fun j o h => ?_) h2⟩
    · obtain⟨u,e2,hu⟩:=h1
      refine⟨u,e2,?_⟩
      rw[Nat.add_zero] at q1 q2
      exact emp_leaf q1 q2 hu
    · have:=hn (j+1) o (by simpa [promo] using h)
      rw[show n+(j+1)=n+1+j by omega] at this
      exact this
  · have e1:promo (a::l) n=(a::(promo l n).1,(promo l n).2):=by
     cases a<;>first
      | rfl
      | exact absurd ⟨_,_,rfl⟩ hc
    rw[e1] at hn ⊢
    exact⟨v,r,e,VL.ext hx _ _ h1,promo_vls hx l r n hn h2⟩
theorem promoO_length:∀(l:List Ob) (n:Nat),(promoO l n).1.length=l.length
 | [],_=>rfl
 | x::l,n=>by cases x<;>simp[promoO,promoO_length l]
theorem promoO_rows:∀(l:List Ob) (n j:Nat) (o:Ob),(promoO l n).2[j]? = some o→∃e t,o=empRow e t
 | [],_,_,_,h=>by simp[promoO] at h
 | x::l,n,j,o,h=>by
  cases x<;>first
   | exact promoO_rows l n j o h
   | (simp only[promoO] at h
      rw[List.getElem?_append] at h
      split at h
      · exact promo_rows _ _ _ _ h
      · exact promoO_rows l _ _ o h)
theorem promoO_get:∀(l:List Ob) (n k:Nat) (o:Ob),l[k]? = some o→(promoO l n).1[k]? = some o∨∃e cs m,o=.cells e cs∧n≤m∧(promoO l n).1[k]? = some (.cells e (promo cs m).1)∧∀j o',(promo cs m).2[j]? = some o'→(promoO l n).2[m-n+j]? = some o'
 | [],_,k,o,h=>by simp at h
 | x::l,n,0,o,h=>by
  simp at h
  subst h
  cases x<;>first
   | exact .inl rfl
   | (refine .inr ⟨_,_,n,rfl,Nat.le_refl _,rfl,fun j o' hj => ?_⟩
      simp only[promoO]
      rw[List.getElem?_append_left (by have:=(List.getElem?_eq_some_iff.1 hj).1;omega),Nat.sub_self,Nat.zero_add]
      exact hj)
 | x::l,n,k+1,o,h=>by
  have h:l[k]? = some o:=by simpa using h
  cases x<;>first
   | exact promoO_get l n k o h
   | (rename_i e0 cs0
      simp only[promoO,List.getElem?_cons_succ]
      rcases promoO_get l (n+(promo cs0 n).2.length) k o h with h1 | ⟨e,cs,m,h1,h2,h3,h4⟩
      · exact .inl h1
      · refine .inr ⟨e,cs,m,h1,by omega,h3,fun j o' hj => ?_⟩
        rw[List.getElem?_append_right (by omega),show m-n+j-(promo cs0 n).2.length=m-(n+(promo cs0 n).2.length)+j by omega]
        exact h4 j o' hj)
theorem promo_sound {s:St} {l:List AV} (h:Inv M S0 w0 π l s.H S β a w):∃β',Inv M S0 w0 π (promo l s.obs.length).1 (fun k=>((promoO s.obs (s.obs.length+(promo l s.obs.length).2.length)).1++((promo l s.obs.length).2++(promoO s.obs (s.obs.length+(promo l s.obs.length).2.length)).2)).getD k .none) S β' a w:=by
 let β':Nat→Cr:=fun k=>if k<s.obs.length then β k else ⟨none,0,[]⟩
 have hpl:=promoO_length s.obs (s.obs.length+(promo l s.obs.length).2.length)
 have hrow:∀(j:Nat) (o:Ob),((promo l s.obs.length).2++(promoO s.obs (s.obs.length+(promo l s.obs.length).2.length)).2)[j]? = some o→∃e t,o=empRow e t:=by
  intro j o ho
  rw[List.getElem?_append] at ho
  split at ho
  · exact promo_rows _ _ _ _ ho
  · exact promoO_rows _ _ _ _ ho
 have hnew:∀(j:Nat) (o:Ob),((promo l s.obs.length).2++(promoO s.obs (s.obs.length+(promo l s.obs.length).2.length)).2)[j]? = some o→((promoO s.obs (s.obs.length+(promo l s.obs.length).2.length)).1++((promo l s.obs.length).2++(promoO s.obs (s.obs.length+(promo l s.obs.length).2.length)).2)).getD (s.obs.length+j) .none=o:=by
  intro j o ho
  simp only[List.getD]
  rw[List.getElem?_append_right (by omega),hpl,Nat.add_sub_cancel_left,ho]
  rfl
 have hp2:∀(j:Nat) (o:Ob),(promo l s.obs.length).2[j]? = some o→((promo l s.obs.length).2++(promoO s.obs (s.obs.length+(promo l s.obs.length).2.length)).2)[j]? = some o:=by
  intro j o ho
  rw[List.getElem?_append_left (List.getElem?_eq_some_iff.1 ho).1]
  exact ho
 have hH:∀k,(k<s.obs.length∧(((promoO s.obs (s.obs.length+(promo l s.obs.length).2.length)).1++((promo l s.obs.length).2++(promoO s.obs (s.obs.length+(promo l s.obs.length).2.length)).2)).getD k .none=s.H k∨∃e cs m,s.H k=.cells e cs∧s.obs.length≤m∧((promoO s.obs (s.obs.length+(promo l s.obs.length).2.length)).1++((promo l s.obs.length).2++(promoO s.obs (s.obs.length+(promo l s.obs.length).2.length)).2)).getD k .none=.cells e (promo cs m).1 ∧
  ∀j o,(promo cs m).2[j]? = some o→((promo l s.obs.length).2++(promoO s.obs (s.obs.length+(promo l s.obs.length).2.length)).2)[m-s.obs.length+j]? = some o)) ∨
  (s.obs.length≤k∧s.H k=.none∧(((promoO s.obs (s.obs.length+(promo l s.obs.length).2.length)).1++((promo l s.obs.length).2++(promoO s.obs (s.obs.length+(promo l s.obs.length).2.length)).2)).getD k .none=.none∨∃e t,((promoO s.obs (s.obs.length+(promo l s.obs.length).2.length)).1++((promo l s.obs.length).2++(promoO s.obs (s.obs.length+(promo l s.obs.length).2.length)).2)).getD k .none=empRow e t)):=by
  intro k
  by_cases hk:k<s.obs.length
  · refine .inl ⟨hk,?_⟩
    have h0:s.obs[k]? = some (s.obs[k]):=List.getElem?_eq_getElem hk
    have hs:s.H k=s.obs[k]:=by simp[St.H,h0]
    simp only[List.getD]
    rw[List.getElem?_append_left (by omega)]
    rcases promoO_get s.obs (s.obs.length+(promo l s.obs.length).2.length) k _ h0 with h1 | ⟨e,cs,m,h1,h2,h3,h4⟩
    · exact .inl (by rw[h1,hs];rfl)
    · refine .inr ⟨e,cs,m,by rw[hs];exact h1,by omega,by rw[h3];rfl,fun j o hj => ?_⟩
      rw[List.getElem?_append_right (by omega)]
      rw[show m-s.obs.length+j-(promo l s.obs.length).2.length=m-(s.obs.length+(promo l s.obs.length).2.length)+j by omega]
      exact h4 j o hj
  · refine .inr ⟨by omega,?_,?_⟩
    · simp only[St.H,List.getD]
      rw[List.getElem?_eq_none (by omega)]
      rfl
    · simp only[List.getD]
      rw[List.getElem?_append_right (by omega)]
      cases ho:((promo l s.obs.length).2++(promoO s.obs (s.obs.length+(promo l s.obs.length).2.length)).2)[k-(promoO s.obs (s.obs.length+(promo l s.obs.length).2.length)).1.length]? with
      | none=>exact .inl rfl
      | some o=>obtain⟨e,t,rfl⟩:=hrow _ _ ho;exact .inr ⟨e,t,rfl⟩
 generalize ((promo l s.obs.length).2++(promoO s.obs (s.obs.length+(promo l s.obs.length).2.length)).2)=N at hrow hnew hp2 hH ⊢
 generalize hG:(fun k=>((promoO s.obs (s.obs.length+(promo l s.obs.length).2.length)).1++N).getD k .none)=H'
 have hG':∀k,((promoO s.obs (s.obs.length+(promo l s.obs.length).2.length)).1++N).getD k .none=H' k:=fun k=>by rw[←hG]
 simp only[hG'] at hH hnew
 have hx:Ext S w β s.H S w β' H':=by
  refine⟨fun b hb=>⟨hb,rfl⟩,fun k => ?_⟩
  rcases hH k with ⟨h1,h2⟩ | ⟨h1,h2,_⟩
  · simp only[β',if_pos h1]
    rcases h2 with h2 | ⟨e,cs,m,h2,_,h3,_⟩
    · rw[h2];exact ObExt.refl _ _
    · rw[h2,h3];exact .inr ⟨rfl,_,rfl⟩
  · rw[h2];trivial
 have hfresh:∀(cs:List AV) (m:Nat),s.obs.length≤m→(∀j o,(promo cs m).2[j]? = some o→N[m-s.obs.length+j]? = some o)→∀j o,(promo cs m).2[j]? = some o→H' (m+j)=o∧(β' (m+j)).g=none:=by
  intro cs m hm hj j o ho
  have:=hnew _ _ (hj j o ho)
  rw[show s.obs.length+(m-s.obs.length+j)=m+j by omega] at this
  refine⟨this,?_⟩
  simp only[β',if_neg (show ¬m+j<s.obs.length by omega)]
 have hold:∀k g,(H' k).live=true→(β' k).has g→(s.H k).live=true∧(β k).has g:=by
  intro k g hl hg
  rcases hH k with ⟨h1,h2⟩ | ⟨h1,h2,_⟩
  · simp only[β',if_pos h1] at hg
    refine⟨?_,hg⟩
    rcases h2 with h2 | ⟨e,cs,m,h2,_⟩
    · rw[h2] at hl;exact hl
    · rw[h2];rfl
  · simp only[β',if_neg (Nat.not_lt.2 h1)] at hg
    exact absurd hg has_nil
 refine⟨β',⟨h.rel.fr,h.rel.s0,h.rel.sS,fun k g hl hg=>h.rel.own k g (hold k g hl hg).1 (hold k g hl hg).2,fun k k' g hl hl' hg hg'=>h.rel.dis k k' g (hold k g hl hg).1 (hold k' g hl' hg').1 (hold k g hl hg).2 (hold k' g hl' hg').2,fun k => ?_,h.rel.gl⟩,by rw[promo_length];exact h.len,fun t => ?_,h.nod,fun k hk=>(h.pin k hk).trans (hx.hO k)⟩
 · rcases hH k with ⟨h1,h2⟩ | ⟨h1,h2,h3⟩
   · simp only[β',if_pos h1]
     rcases h2 with h2 | ⟨e,cs,m,h2,hm,h3,h4⟩
     · rw[h2]
       exact ObR.ext hx _ _ (fun _ _=>rfl) (h.rel.ob k)
     · rw[h3]
       have hob:=h.rel.ob k
       rw[h2] at hob
       obtain⟨g,vs,q1,q2,q3⟩:=hob
       exact⟨g,vs,q1,q2,promo_vls hx cs vs m (hfresh cs m hm h4) q3⟩
   · simp only[β',if_neg (Nat.not_lt.2 h1)]
     rcases h3 with h3 | ⟨e,t,h3⟩
     · rw[h3];trivial
     · rw[h3];unfold empRow;cases t.noOl
       · exact .inl ⟨rfl,rfl,rfl⟩
       · exact .inl ⟨rfl,rfl⟩
 · rcases promo_get l s.obs.length t with e | ⟨e,ty,j,h1,h2,h3⟩
   · rw[e];exact VL.ext hx _ _ (h.sl t)
   · have hv:=h.sl t
     rw[h1] at hv
     obtain⟨v,q1,q2⟩:=hv
     rw[h2]
     refine⟨v,q1,?_⟩
     obtain⟨hk,hk2⟩:=hfresh l s.obs.length (Nat.le_refl _) (fun j o hj=>by rw[Nat.sub_self,Nat.zero_add];exact hp2 j o hj) j _ h3
     exact emp_leaf hk hk2 q2
theorem addNew_pre:∀(l acc:List Nat) (k x:Nat),acc[k]? = some x→(addNew acc l)[k]? = some x
 | [],acc,k,x,h=>h
 | y::l,acc,k,x,h=>by
  simp only[addNew]
  refine addNew_pre l _ k x ?_
  cases acc.contains y with
  | true=>exact h
  | false=>rw[cond_false,List.getElem?_append_left (List.getElem?_eq_some_iff.1 h).1];exact h
theorem reachH_pre {H:Nat→Ob}:∀(f:Nat) (l acc:List Nat) (k x:Nat),acc[k]? = some x→(reachH H f l acc)[k]? = some x
 | 0,_,_,_,_,h=>h
 | f+1,[],_,_,_,h=>h
 | f+1,y::l,acc,k,x,h=>reachH_pre f _ _ k x (addNew_pre _ _ k x h)
theorem ObExt.ren_r {c c':Cr} {o o':Ob} (h:ObExt c o c' o') (perm:List Nat):ObExt c o c' (o'.ren perm):=by
 cases o with
 | none=>trivial
 | dead=>obtain rfl:o'=.dead:=h;rfl
 | cells e cs=>
  rcases h with rfl | ⟨e1,cs',rfl⟩
  · exact .inl rfl
  · exact .inr ⟨e1,_,rfl⟩
 | row e t xs=>
  rcases h with rfl | ⟨e1,xs',rfl,e2⟩
  · exact .inl rfl
  · exact .inr ⟨e1,xs',rfl,e2⟩
 | prow e xs=>
  rcases h with rfl | ⟨e1,xs',rfl,e2⟩
  · exact .inl rfl
  · exact .inr ⟨e1,_,rfl,by simpa using e2⟩
 | map ag t es=>
  rcases h with rfl | ⟨e1,es',rfl⟩
  · exact .inl rfl
  · exact .inr ⟨e1,_,rfl⟩
 | mit m n seen cur=>
  rcases h with rfl | ⟨e1,m',n',s',c',rfl⟩
  · exact .inl rfl
  · simp only[Ob.ren]
    cases posOf perm m' 0 with
    | none=>exact .inl rfl
    | some q=>exact .inr ⟨e1,_,_,_,_,rfl⟩
 | orow e t xs=>
  rcases h with rfl | ⟨e1,e0,xs',hq,e2⟩
  · exact .inl rfl
  · rcases hq with rfl | ⟨i,off,rfl⟩
    · exact .inr ⟨e1,e0,xs',.inl rfl,e2⟩
    · exact .inr ⟨e1,e0,xs',.inr ⟨_,_,rfl⟩,e2⟩
 | hrow e t xs i off=>
  rcases h with rfl | ⟨e1,e0,xs',hq,e2⟩
  · exact .inl rfl
  · rcases hq with rfl | ⟨i,off,rfl⟩
    · exact .inr ⟨e1,e0,xs',.inl rfl,e2⟩
    · exact .inr ⟨e1,e0,xs',.inr ⟨_,_,rfl⟩,e2⟩
theorem tidy_sound {s:St} (live:List Nat) (hsn:s.n=π.n) (h:Inv M S0 w0 π s.slots s.H S β a w):∃β',Inv M S0 w0 π (s.tidy live).slots (s.tidy live).H S β' a w:=by
 unfold St.tidy
 simp only
 obtain⟨β1,h1⟩:=promo_sound (keep_sound (live:=live) (i:=0) h)
 generalize promo (keepL live s.slots 0) s.obs.length=p at h1
 generalize ((promoO s.obs (s.obs.length+p.2.length)).1++(p.2++(promoO s.obs (s.obs.length+p.2.length)).2))=obs at h1
 have hpre:∀k,k<s.n→(reachH (fun k=>obs.getD k .none) 5 ((List.range s.n).flatMap (fun k=>(obs.getD k .none).refs)++p.1.flatMap AV.refs) (List.range s.n))[k]? = some k:=fun k hk=>
  reachH_pre _ _ _ k k (by rw[List.getElem?_range hk])
 generalize reachH (fun k=>obs.getD k .none) 5 ((List.range s.n).flatMap (fun k=>(obs.getD k .none).refs)++p.1.flatMap AV.refs) (List.range s.n)=perm at hpre
 cases hn:nodupB perm with
 | false=>exact⟨β,h⟩
 | true=>
  refine⟨renC β1 perm,?_⟩
  simp only[cond_true]
  have hr:=h1.rel.ren (nodup_of _ hn)
  have e:(⟨p.1.map (AV.ren perm),perm.map fun k=>(obs.getD k .none).ren perm,s.n,s.y,s.stop⟩:St).H=renH (fun k=>obs.getD k .none) perm:=by
   funext q
   simp only[St.H,renH,List.getD,List.getElem?_map]
   cases perm[q]? <;> rfl
  rw[e]
  refine⟨hr,by simpa using h1.len,fun t => ?_,h1.nod,fun k hk => ?_⟩
  · have hv:=VL.ren (perm:=perm) _ _ (h1.sl t)
    have e2:(p.1.map (AV.ren perm)).getD t .undef=(p.1.getD t .undef).ren perm:=by
     simp only[List.getD,List.getElem?_map]
     cases p.1[t]? <;> rfl
    rw[e2]
    exact hv
  · have hk':=hpre k (by omega)
    simp only[renC,renH,hk']
    exact ObExt.ren_r (h1.pin k hk) perm
theorem tidy_n (live:List Nat) (s:St):(s.tidy live).n=s.n:=by
 unfold St.tidy
 simp only
 generalize nodupB _=b
 cases b<;>rfl
theorem tidy_y (live:List Nat) (s:St):(s.tidy live).y=s.y∧(s.tidy live).stop=s.stop:=by
 unfold St.tidy
 simp only
 generalize nodupB _=b
 cases b<;>exact⟨rfl,rfl⟩
theorem tidy_length (live:List Nat) (s:St):(s.tidy live).slots.length=s.slots.length:=by
 unfold St.tidy
 simp only
 generalize hp:promo (keepL live s.slots 0) s.obs.length=p
 generalize reachH _ _ _ _=perm
 cases nodupB perm with
 | false=>rfl
 | true=>rw[cond_true,List.length_map,←hp,promo_length,keepL_length]
theorem tidyIf_sound {s:St} (b:Bool) (live:List Nat) (hsn:s.n=π.n) (h:Inv M S0 w0 π s.slots s.H S β a w):∃β',Inv M S0 w0 π (bif b then s.tidy live else s).slots (bif b then s.tidy live else s).H S β' a w:=by
 cases b with
 | true=>exact tidy_sound live hsn h
 | false=>exact⟨β,h⟩
end
def expoOps (ops:Array Oper):List Oper→List Nat→List Nat
 | [],_=>[]
 | o::l,d=>(o.looksAt ops).filter (fun t => !d.contains t)++expoOps ops l (o.dst.toList++d)
def expo:Code→List Nat×List Nat
 | .region _ ops _=>(expoOps ops ops.toList [],ops.toList.filterMap (·.dst))
 | .seq a b=>((expo a).1++(expo b).1.filter (fun t => !(expo a).2.contains t),(expo a).2++(expo b).2)
 | .cond c a b=>((match c with | .tmp t=>[t] | _=>[])++(expo a).1++(expo b).1,[])
 | .block _ c=>((expo c).1,[])
 | .loop c=>((expo c).1,[])
 | .rangeFunc f _ x y=>((match f with | .tmp t=>[t] | _=>[])++(expo x).1++(expo y).1,[])
 | _=>([],[])
def loopT (live:List Nat) (body:St→(Ex→St→Prop)→Prop) (s:St) (Q:Ex→St→Prop):Prop:=
 ∃(I:Nat→St→Prop) (n:Nat),I n s∧∀n s,I n s→body s (thenA (fun s'=>∃m,m<n∧I m (s'.tidy live)) Q)
def loopB (live:List Nat) (body:St→(Ex→St→Prop)→Prop) (s:St) (Q:Ex→St→Prop):Prop:=loopT live body (s.tidy live) Q
def condSt (c:Operand) (b:Bool) (s:St):St:=match c with
 | .tmp t=>⟨s.slots.set t (.bool b),s.obs,s.n,s.y,s.stop⟩
 | _=>s
def Env.noY (env:Env):Env:={env with ycnt:=0,isIt:=false}
def rid:Code→Nat
 | .region id _ _=>id+1
 | .seq a b=>bif (rid a).beq 0 then rid b else rid a
 | .cond _ a b=>bif (rid a).beq 0 then rid b else rid a
 | .block _ c=>rid c
 | .loop c=>rid c
 | .rangeFunc _ _ a b=>bif (rid a).beq 0 then rid b else rid a
 | _=>0
def AV.force:AV→(AV→Prop)→Prop
 | .agg c,k=>c.force fun c'=>k (.agg c')
 | .tuple c,k=>c.force fun c'=>k (.tuple c')
 | .fn f a c,k=>a.force fun a'=>c.force fun c'=>k (.fn f a' c')
 | .iface t v,k=>v.force fun v'=>k (.iface t v')
 | .cons a b,k=>a.force fun a'=>b.force fun b'=>k (.cons a' b')
 | a,k=>k a
theorem AV.force_eq:∀(a:AV) (k:AV→Prop),a.force k=k a:=by
 intro a
 induction a<;>intro k<;>simp_all [AV.force]
def forceL:List AV→(List AV→Prop)→Prop
 | [],k=>k []
 | a::l,k=>a.force fun a'=>forceL l fun l'=>k (a'::l')
theorem forceL_eq:∀(l:List AV) (k:List AV→Prop),forceL l k=k l
 | [],_=>rfl
 | a::l,k=>by simp only[forceL,AV.force_eq,forceL_eq l]
def Ob.force:Ob→(Ob→Prop)→Prop
 | .cells e cs,k=>forceL cs fun cs'=>k (.cells e cs')
 | .prow e cs,k=>forceL cs fun cs'=>k (.prow e cs')
 | o,k=>k o
theorem Ob.force_eq (o:Ob) (k:Ob→Prop):o.force k=k o:=by
 cases o<;>simp only[Ob.force,forceL_eq]
def forceO:List Ob→(List Ob→Prop)→Prop
 | [],k=>k []
 | a::l,k=>a.force fun a'=>forceO l fun l'=>k (a'::l')
theorem forceO_eq:∀(l:List Ob) (k:List Ob→Prop),forceO l k=k l
 | [],_=>rfl
 | a::l,k=>by simp only[forceO,Ob.force_eq,forceO_eq l]
def St.force (s:St) (k:St→Prop):Prop:=forceL s.slots fun sl=>forceO s.obs fun obs=>k ⟨sl,obs,s.n,s.y,s.stop⟩
theorem St.force_eq (s:St) (k:St→Prop):s.force k=k s:=by
 simp only[St.force,forceL_eq,forceO_eq]
def forceN:List Nat→(List Nat→Prop)→Prop
 | [],k=>k []
 | a::l,k=>forceN l fun l'=>k (a::l')
theorem forceN_eq:∀(l:List Nat) (k:List Nat→Prop),forceN l k=k l
 | [],_=>rfl
 | a::l,k=>by simp only[forceN,forceN_eq l]
def tidyK (live:List Nat) (s:St) (k:St→Prop):Prop:=
 forceL (keepL live s.slots 0) fun sl0=>forceO s.obs fun ob0=>
 forceL (promo sl0 ob0.length).1 fun sl=>forceO (promo sl0 ob0.length).2 fun n1=>
 forceO (promoO ob0 (ob0.length+n1.length)).1 fun o1=>forceO (promoO ob0 (ob0.length+n1.length)).2 fun n2=>
 forceO (o1++(n1++n2)) fun obs=>
 forceN ((List.range s.n).flatMap (fun k=>(obs.getD k .none).refs)++sl.flatMap AV.refs) fun rs=>
 forceN (reachH (fun k=>obs.getD k .none) 5 rs (List.range s.n)) fun perm=>
 bif nodupB perm then forceL (sl.map (AV.ren perm)) fun sl'=>forceO (perm.map fun k=>(obs.getD k .none).ren perm) fun obs'=>k ⟨sl',obs',s.n,s.y,s.stop⟩ else k s
theorem tidyK_eq (live:List Nat) (s:St) (k:St→Prop):tidyK live s k=k (s.tidy live):=by
 simp only[tidyK,forceL_eq,forceO_eq,forceN_eq,St.tidy]
 generalize nodupB _=b
 cases b<;>rfl
inductive Meet (k:St→Prop) (s:St):Prop
 | mk (h:k s)
theorem meet_eq (k:St→Prop) (s:St):Meet k s=k s:=propext ⟨fun⟨h⟩=>h,fun h=>⟨h⟩⟩
def goOn (b:Bool) (live:List Nat) (s:St) (k:St→Prop):Prop:=bif b then tidyK live s (Meet k) else k s
theorem goOn_eq (b:Bool) (live:List Nat) (s:St) (k:St→Prop):goOn b live s k=k (bif b then s.tidy live else s):=by
 cases b
 · rfl
 · simp only[goOn,cond_true,tidyK_eq,meet_eq]
def cutAt (env:Env) (c:Code):Bool:=env.cuts.contains (rid c)
def setL:List AV→List Nat→List AV→List AV
 | l,p::ps,x::xs=>setL (l.set p x) ps xs
 | l,_,_=>l
def deadL (perm:List Nat):List Ob→Nat→List Ob
 | [],_=>[]
 | o::l,k=>(bif perm.contains k then .dead else o)::deadL perm l (k+1)
def roundSt (ps:List Nat) (as:List AV) (t:St):St:=⟨setL t.slots ps as,t.obs,t.obs.length,0,false⟩
def backSt (t t2:St):St:=⟨t.slots,t2.obs,t.n,t.y,t.stop⟩
def roundK (live:List Nat) (I:Nat→St→Prop) (Q:Ex→St→Prop) (i:Nat) (t:St):Ex→St→Prop
 | .normal,t2=>I (i+1) ((backSt t t2).tidy live)
 | .exit j,t2=>Q (.exit j) (backSt t t2)
 | .ret,t2=>Q .ret (backSt t t2)
 | .panic _,_=>False
def rangeT (live:List Nat) (run:Nat→St→(Ex→St→Prop)→Prop) (cnt:Nat) (s:St) (Q:Ex→St→Prop):Prop:=
 ∃I:Nat→St→Prop,I 0 s∧(∀i t,i<cnt→I i t→run i t (roundK live I Q i t))∧∀t,I cnt t→Q .normal t
def never:Ex→St→Prop:=fun _ _=>False
def iterOf (env:Env) (s:St) (f:AV):Option (List Nat×TellsI):=match f with
 | .fn (.func g) a c=>if a.chain&&c.chain then
  let perm:=reachH s.H 8 ((a.toList++c.toList).flatMap AV.refs) []
  bif nodupB perm then
   match env.iter g (a.toList.map (AV.ren perm)) (c.toList.map (AV.ren perm)) (perm.map fun k=>(s.H k).ren perm) with
   | some t=>some (perm,t)
   | none=>none
  else none
  else none
 | _=>none
def codeG (lp:List Nat→(St→(Ex→St→Prop)→Prop)→St→(Ex→St→Prop)→Prop) (T:Tab):Code→Env→List Nat→St→(Ex→St→Prop)→Prop
 | .skip,_,_,s,Q=>Q .normal s
 | .region _ ops draw,env,_,s,Q=>regionA T env ops draw s (Q .normal) (fun x=>Q (.panic x))
 | .seq a b,env,L,s,Q=>codeG lp T a env ((expo b).1++L) s (thenA (fun s'=>goOn (cutAt env b) ((expo b).1++L) s' fun s2=>codeG lp T b env L s2 Q) Q)
 | .cond c a b,env,L,s,Q=>match evA s.slots c with
  | .bool b'=>bif b' then codeG lp T a env L (condSt c true s) Q else codeG lp T b env L (condSt c false s) Q
  | _=>False
 | .block id c,env,L,s,Q=>codeG lp T c env L s (blockA id Q)
 | .exit id,_,_,s,Q=>Q (.exit id) s
 | .ret,_,_,s,Q=>Q .ret s
 | .loop c,env,L,s,Q=>lp ((expo c).1++L) (codeG lp T c env ((expo c).1++L)) s Q
 | .rangeFunc f ps x y,env,L,s,Q=>match iterOf env s (evA s.slots f) with
  | none=>False
  | some (perm,t)=>bif env.isIt then False else guardA t.pre (rangeT ((expo x).1++(expo y).1++L)
   (fun i t0 K=>(t.arg i).length=ps.toList.length∧codeG lp T x env.noY ((expo y).1++(expo x).1++L) (roundSt ps.toList (t.arg i) t0) (thenA (fun s'=>codeG lp T y env.noY ((expo x).1++(expo y).1++L) s' K) never))
   t.cnt ((St.mk s.slots (deadL perm s.obs 0) s.n s.y s.stop).tidy ((expo x).1++(expo y).1++L)) Q)
 | _,_,_,_,_=>False
abbrev codeA (T:Tab) (env:Env) (c:Code):List Nat→St→(Ex→St→Prop)→Prop:=codeG loopB T c env
def seqQ (T:Tab) (env:Env) (c:Code) (L:List Nat) (Q:Ex→St→Prop):Ex→St→Prop:=thenA (fun s=>goOn (cutAt env c) ((expo c).1++L) s fun s2=>codeA T env c L s2 Q) Q
def subC:List Nat→Code→Code
 | [],c=>c
 | 0::p,.seq a _=>subC p a
 | _::p,.seq _ b=>subC p b
 | 0::p,.cond _ a _=>subC p a
 | _::p,.cond _ _ b=>subC p b
 | _::p,.block _ c=>subC p c
 | _::p,.loop c=>subC p c
 | 0::p,.rangeFunc _ _ x _=>subC p x
 | _::p,.rangeFunc _ _ _ y=>subC p y
 | _,c=>c
def bodyOf (f:Func):Code:=f.body.getD .skip
def exOf:Ex→Exit
 | .normal=>.normal
 | .exit i=>.exit i
 | .ret=>.ret
 | .panic x=>.panic [{v:=x,recovered:=false}]
section
variable {P:Program} {T:Tab} {env:Env} {M S0:Nat→Prop} {w0:World} {π:Pin}
def Lifts (B:Bs) (π:Pin) (Q:Ex→St→Prop) (Q':Exit→Act→World→Prop):Prop:=
 ∀e s S β a w,InvB B π s S β a w→s.n=π.n→Q e s→Q' (exOf e) a w
def RecsOk (ρ:Option Nat) (B:Bs):Prop:=∀y st M S0 w0,B y st M S0 w0→∀l,ρ=some l→∃r,w0.heap[l]? = some (.loop r)∧¬M l
def CodeOk (P:Program) (T:Tab) (env:Env) (c:Code):Prop:=∀(ρ:Option Nat) (B:Bs) (π:Pin),YieldOk P env B π→RecsOk ρ B→(π.r=true→ρ.isSome=true∨env.isIt=true)→(ρ.isSome=true→π.r=true)→∀(L:List Nat) (s:St) (Q:Ex→St→Prop) (Q':Exit→Act→World→Prop) (S:Nat→Prop) (β:Nat→Cr) (a:Act) (w:World),
 InvB B π s S β a w→s.n=π.n→codeA T env c L s Q→Lifts B π Q Q'→c.wpIn (Wd ρ) 0 P Q' a w
theorem cond_inv {c:Operand} {b:Bool} {s:St} {S:Nat→Prop} {β:Nat→Cr} {a:Act} {w:World} (h:Inv M S0 w0 π s.slots s.H S β a w) (hc:evA s.slots c=.bool b):Inv M S0 w0 π (condSt c b s).slots (condSt c b s).H S β a w:=by
 cases c with
 | tmp t=>
  simp only[evA] at hc
  refine⟨h.rel,by simp only[condSt,List.length_set];exact h.len,fun u => ?_,h.nod,h.pin⟩
  simp only[condSt]
  have:=putSlot_get s.slots (some t) (.bool b) u
  simp only[putSlot] at this
  rw[this]
  split
  · rename_i hu
    have e:t=u:=by simpa using hu.1
    subst e
    have:=h.sl t
    rw[hc] at this
    exact this
  · exact h.sl u
 | _=>exact h
end
end Go.Proofs.YtkpjcmiijlpcaaaDoor.Aw
namespace Go.Proofs.YtkpjcmiijlpcaaaDoor.Aw
open Go
def ownB (β:Nat→Cr) (H:Nat→Ob) (b:Nat):Prop:=∃k,(H k).live=true∧(β k).has b
section
variable {P:Program} {M S0:Nat→Prop} {w0:World} {S:Nat→Prop} {β:Nat→Cr} {H:Nat→Ob} {w w':World}
theorem ob_live {H':Nat→Ob} {β':Nat→Cr} {S':Nat→Prop} (hx:Ext S w β H S' w' β' H') {k:Nat} (h:ObR S w β H (β k) (H k)) (e1:H' k=H k) (e2:β' k=β k) (hg:∀g,(H k).live=true→(β k).has g→w'.heap[g]? = w.heap[g]?):ObR S' w' β' H' (β' k) (H' k):=by
 rw[e1,e2]
 by_cases hl:(H k).live=true
 · exact ObR.ext hx _ _ (fun g q=>hg g hl q) h
 · exact ObR.idle (by simpa using hl)
theorem Rel.rebase (h:Rel M S0 w0 S β H w) (hz:w.heap.size≤w'.heap.size) (hS:∀b,S b→w'.heap[b]? = w.heap[b]?) (hO:∀b,ownB β H b→w'.heap[b]? = w.heap[b]?):Rel (ownB β H) S w' S β H w'∧Ext S w β H S w' β H:=by
 have hx:Ext S w β H S w' β H:=⟨fun b hb=>⟨hb,hS b hb⟩,fun _=>ObExt.refl _ _⟩
 exact⟨⟨Fr.refl _ _,fun _ hb=>hb,fun b hb=>⟨Nat.lt_of_lt_of_le (h.sS b hb).1 hz,.inl hb⟩,fun k g hl hg=>⟨.inl ⟨k,hl,hg⟩,Nat.lt_of_lt_of_le (h.own k g hl hg).2.1 hz,(h.own k g hl hg).2.2⟩,h.dis,fun k=>ob_live hx (h.ob k) rfl rfl fun g hl hg=>hO g ⟨k,hl,hg⟩,h.gl.mono hx.hS⟩,hx⟩
theorem Rel.drop (h:Rel M S0 w0 S β H w) (H':Nat→Ob) (hH:∀k,H' k=H k∨H' k=.dead):Rel M S0 w0 S β H' w∧Ext S w β H S w β H':=by
 have hx:Ext S w β H S w β H':=⟨fun b hb=>⟨hb,rfl⟩,fun k=>by
  rcases hH k with e | e
  · rw[e];exact ObExt.refl _ _
  · rw[e]
    cases H k with
    | none=>trivial
    | dead=>rfl
    | cells e cs=>exact .inl rfl
    | row e t xs=>exact .inl rfl
    | prow e xs=>exact .inl rfl
    | map ag t es=>exact .inl rfl
    | mit m n seen cur=>exact .inl rfl
    | orow e t xs=>exact .inl rfl
    | hrow e t xs i off=>exact .inl rfl⟩
 have hl:∀k,(H' k).live=true→(H k).live=true∧H' k=H k:=by
  intro k hk
  rcases hH k with e | e
  · exact⟨by rw[←e];exact hk,e⟩
  · rw[e] at hk;cases hk
 refine⟨⟨h.fr,h.s0,h.sS,fun k g h1 h2=>h.own k g (hl k h1).1 h2,fun k k' g h1 h2 h3 h4=>h.dis k k' g (hl k h1).1 (hl k' h2).1 h3 h4,fun k => ?_,h.gl⟩,hx⟩
 rcases hH k with e | e
 · exact ob_live hx (h.ob k) e rfl fun _ _ _=>rfl
 · rw[e];trivial
theorem deadL_get (perm:List Nat):∀(l:List Ob) (n k:Nat),(deadL perm l n).getD k .none=l.getD k .none∨(deadL perm l n).getD k .none=.dead∧n+k∈perm
 | [],_,_=>.inl rfl
 | o::l,n,0=>by
  simp only[deadL]
  cases hc:perm.contains n with
  | false=>exact .inl rfl
  | true=>exact .inr ⟨rfl,by simpa using hc⟩
 | o::l,n,k+1=>by
  have:=deadL_get perm l (n+1) k
  rw[show n+1+k=n+(k+1) by omega] at this
  exact this
theorem deadL_dead (perm:List Nat):∀(l:List Ob) (n k:Nat),n+k∈perm→k<l.length→(deadL perm l n).getD k .none=.dead
 | [],_,_,_,h=>by simp at h
 | o::l,n,0,h,_=>by
  have:perm.contains n=true:=by simpa using h
  simp only[deadL,this,cond_true]
  rfl
 | o::l,n,k+1,h,hl=>deadL_dead perm l (n+1) k (by rw[show n+1+k=n+(k+1) by omega];exact h) (by simpa using hl)
theorem setL_sl:∀(ps:List Nat) (as:List AV) (us:List Value) (sl:List AV) (tm:Array Value),as.length=ps.length→us.length=ps.length→sl.length≤tm.size→(∀t,VL S w β H (sl.getD t .undef) [tm.getD t undef])→VLs S w β H as us →
 (setL sl ps as).length≤((ps.zip us).foldl (fun tm p=>tm.setIfInBounds p.1 p.2) tm).size∧∀t,VL S w β H ((setL sl ps as).getD t .undef) [((ps.zip us).foldl (fun tm p=>tm.setIfInBounds p.1 p.2) tm).getD t undef]
 | [],as,us,sl,tm,_,_,hl,hs,_=>by
  cases as<;>exact⟨hl,hs⟩
 | p::ps,[],us,sl,tm,h1,_,_,_,_=>by simp at h1
 | p::ps,x::as,us,sl,tm,h1,h2,hl,hs,⟨u,r,e,hx,hr⟩=>by
  subst e
  have hput:=put_sl (a:=⟨tm,[]⟩) (d:=some p) (v:=x) (u:=u) hl hs hx
  exact setL_sl ps as r (sl.set p x) (tm.setIfInBounds p u) (by simpa using h1) (by simpa using h2) hput.1 hput.2 hr
theorem zip_foldl (ps:Array Tmp) (us:List Value) (tm:Array Value):(ps.zip us.toArray).foldl (fun tmps (t,a)=>tmps.setIfInBounds t a) tm=(ps.toList.zip us).foldl (fun tm p=>tm.setIfInBounds p.1 p.2) tm:=by
 rw[←Array.foldl_toList,Array.toList_zip]
theorem enter_ok {ρ:Option Nat} (hR:∀l,ρ=some l→∃r,w.heap[l]? = some (.loop r)) (fn:FuncId) (tm:Array Value) (ps:Array Tmp) (x y:Code) :
 ∃L mark w1 db,(Instr.enterLoop fn tm ps x y ρ).run P w=.ok (L,mark) w1∧w1.os=w.os∧w1.tape=w.tape∧w1.output=w.output∧w.heap.size≤w1.heap.size∧(∀b,b<w.heap.size→w1.heap[b]? = w.heap[b]?) ∧
  w1.heap[L]? = some (.loop {state:=.ready,pending:=none,fn,tmps:=tm,params:=ps,assign:=x,body:=y,defers:=db})∧w.heap.size≤L ∧
  (mark=[]∨∃D,mark=[{target:=.collected D,args := #[]}]∧w.heap.size≤D∧D≠L∧w1.heap[D]? = some (.deferred (some [])))∧(ρ.isSome=true→mark=[]):=by
 cases ρ with
 | none=>
  refine⟨w.heap.size+1,[{target:=.collected w.heap.size,args := #[]}],_,w.heap.size,run_enterLoop_outer fn tm ps x y,rfl,rfl,rfl,?_,?_,?_,?_,.inr ⟨w.heap.size,rfl,Nat.le_refl _,?_,?_⟩,fun h=>by cases h⟩
  · rw[size_alloc,size_alloc];omega
  · intro b hb
    rw[heap_alloc_lt _ _ _ (by rw[size_alloc];omega),heap_alloc_lt _ _ _ hb]
  · have:=heap_alloc_at (w.alloc (.deferred (some []))) (.loop {state:=.ready,pending:=none,fn,tmps:=tm,params:=ps,assign:=x,body:=y,defers:=w.heap.size})
    rw[size_alloc] at this
    exact this
  · omega
  · omega
  · rw[heap_alloc_lt _ _ _ (by rw[size_alloc];omega)];exact heap_alloc_at w _
 | some l=>
  obtain⟨r,hr⟩:=hR l rfl
  exact⟨_,_,_,_,run_enterLoop_inner hr fn tm ps x y,rfl,rfl,rfl,by rw[size_alloc];omega,fun b hb=>heap_alloc_lt _ _ _ hb,heap_alloc_at w _,Nat.le_refl _,.inl rfl,fun _=>rfl⟩
theorem lt_of_heap {b:Nat} {o:Obj} (h:w.heap[b]? = some o):b<w.heap.size:=(Array.getElem?_eq_some_iff.1 h).1
theorem YieldOk.noY {env:Env} {B:Bs} {π:Pin}:YieldOk P env.noY B π:=YieldOk.none ⟨rfl,rfl⟩
theorem EnvOk.hint {env:Env} (he:EnvOk P env) (l m:List Nat):EnvOk P (env.hint l m):=⟨he.one,he.two,he.pan,he.iter⟩
theorem EnvOk.cut {env:Env} (he:EnvOk P env) (l:List Nat):EnvOk P (env.cut l):=⟨he.one,he.two,he.pan,he.iter⟩
theorem EnvOk.noY {env:Env} (he:EnvOk P env):EnvOk P env.noY:=⟨he.one,he.two,he.pan,he.iter⟩
end
end Go.Proofs.YtkpjcmiijlpcaaaDoor.Aw
