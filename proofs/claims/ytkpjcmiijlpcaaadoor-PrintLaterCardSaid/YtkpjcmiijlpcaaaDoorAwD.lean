/- An abstract program logic over the model, third part: what stays when memory moves on. -/
import Derived.Test.YtkpjcmiijlpcaaaDoorAwB
namespace Go.Proofs.YtkpjcmiijlpcaaaDoor.Aw
open Go
def ObExt (c:Cr) (o:Ob) (c':Cr) (o':Ob):Prop:=match o with
 | .none=>True
 | .dead=>o'=.dead
 | .cells e _=>o'=.dead∨(c'.g=c.g∧∃cs',o'=.cells e cs')
 | .row e t xs=>o'=.dead∨(c'=c∧∃xs':List t.den,o'=.row e t xs'∧xs'.length=xs.length)
 | .prow e xs=>o'=.dead∨(c'=c∧∃xs':List AV,o'=.prow e xs'∧xs'.length=xs.length)
 | .orow e t xs=>o'=.dead∨(c'.g=c.g∧c'.cap=c.cap∧∃xs':List t.den,(o'=.orow e t xs'∨∃i off,o'=.hrow e t xs' i off)∧xs'.length=xs.length)
 | .hrow e t xs _ _=>o'=.dead∨(c'.g=c.g∧c'.cap=c.cap∧∃xs':List t.den,(o'=.orow e t xs'∨∃i off,o'=.hrow e t xs' i off)∧xs'.length=xs.length)
 | .map ag t _=>o'=.dead∨(c'.g=c.g∧∃es':List (Int×t.den),o'=.map ag t es')
 | .mit _ _ _ _=>o'=.dead∨(c'.g=c.g∧∃m n seen cur,o'=.mit m n seen cur)
structure Ext (S:Nat→Prop) (w:World) (β:Nat→Cr) (H:Nat→Ob) (S':Nat→Prop) (w':World) (β':Nat→Cr) (H':Nat→Ob):Prop where
 hS:∀b,S b→S' b∧w'.heap[b]? = w.heap[b]?
 hO:∀k,ObExt (β k) (H k) (β' k) (H' k)
theorem ObExt.refl (c:Cr) (o:Ob):ObExt c o c o:=by
 cases o with
 | none=>trivial
 | dead=>rfl
 | cells e cs=>exact .inr ⟨rfl,_,rfl⟩
 | row e t xs=>exact .inr ⟨rfl,_,rfl,rfl⟩
 | prow e xs=>exact .inr ⟨rfl,_,rfl,rfl⟩
 | map ag t es=>exact .inr ⟨rfl,_,rfl⟩
 | orow e t xs=>exact .inr ⟨rfl,rfl,_,.inl rfl,rfl⟩
 | hrow e t xs i off=>exact .inr ⟨rfl,rfl,_,.inr ⟨_,_,rfl⟩,rfl⟩
 | mit m n seen cur=>exact .inr ⟨rfl,_,_,_,_,rfl⟩
theorem ObExt.trans {c c' c'':Cr} {o o' o'':Ob} (h:ObExt c o c' o') (h':ObExt c' o' c'' o''):ObExt c o c'' o'':=by
 cases o with
 | none=>trivial
 | dead=>obtain rfl:o'=.dead:=h;exact h'
 | cells e cs=>
  rcases h with rfl | ⟨e1,cs',rfl⟩
  · obtain rfl:o''=.dead:=h';exact .inl rfl
  · rcases h' with rfl | ⟨e2,cs'',rfl⟩
    · exact .inl rfl
    · exact .inr ⟨e2.trans e1,_,rfl⟩
 | row e t xs=>
  rcases h with rfl | ⟨e1,xs',rfl,l1⟩
  · obtain rfl:o''=.dead:=h';exact .inl rfl
  · rcases h' with rfl | ⟨e2,xs'',rfl,l2⟩
    · exact .inl rfl
    · exact .inr ⟨e2.trans e1,_,rfl,l2.trans l1⟩
 | prow e xs=>
  rcases h with rfl | ⟨e1,xs',rfl,l1⟩
  · obtain rfl:o''=.dead:=h';exact .inl rfl
  · rcases h' with rfl | ⟨e2,xs'',rfl,l2⟩
    · exact .inl rfl
    · exact .inr ⟨e2.trans e1,_,rfl,l2.trans l1⟩
 | map ag t es=>
  rcases h with rfl | ⟨e1,es',rfl⟩
  · obtain rfl:o''=.dead:=h';exact .inl rfl
  · rcases h' with rfl | ⟨e2,es'',rfl⟩
    · exact .inl rfl
    · exact .inr ⟨e2.trans e1,_,rfl⟩
 | mit m n seen cur=>
  rcases h with rfl | ⟨e1,m',n',s',c',rfl⟩
  · obtain rfl:o''=.dead:=h';exact .inl rfl
  · rcases h' with rfl | ⟨e2,m'',n'',s'',c'',rfl⟩
    · exact .inl rfl
    · exact .inr ⟨e2.trans e1,_,_,_,_,rfl⟩
 | orow e t xs=>
  rcases h with rfl | ⟨e1,e0,xs',hq,l1⟩
  · obtain rfl:o''=.dead:=h';exact .inl rfl
  · have h2:o''=.dead∨(c''.g=c'.g∧c''.cap=c'.cap∧∃xs'':List t.den,(o''=.orow e t xs''∨∃i off,o''=.hrow e t xs'' i off)∧xs''.length=xs'.length):=by
     rcases hq with rfl | ⟨i,off,rfl⟩<;>exact h'
    rcases h2 with h2 | ⟨e2,e3,xs'',hq',l2⟩
    · exact .inl h2
    · exact .inr ⟨e2.trans e1,e3.trans e0,xs'',hq',l2.trans l1⟩
 | hrow e t xs i off=>
  rcases h with rfl | ⟨e1,e0,xs',hq,l1⟩
  · obtain rfl:o''=.dead:=h';exact .inl rfl
  · have h2:o''=.dead∨(c''.g=c'.g∧c''.cap=c'.cap∧∃xs'':List t.den,(o''=.orow e t xs''∨∃i off,o''=.hrow e t xs'' i off)∧xs''.length=xs'.length):=by
     rcases hq with rfl | ⟨i,off,rfl⟩<;>exact h'
    rcases h2 with h2 | ⟨e2,e3,xs'',hq',l2⟩
    · exact .inl h2
    · exact .inr ⟨e2.trans e1,e3.trans e0,xs'',hq',l2.trans l1⟩
theorem Ext.refl (S:Nat→Prop) (w:World) (β:Nat→Cr) (H:Nat→Ob):Ext S w β H S w β H:=⟨fun _ h=>⟨h,rfl⟩,fun _=>ObExt.refl _ _⟩
theorem Ext.trans {S S' S'':Nat→Prop} {w w' w'':World} {β β' β'':Nat→Cr} {H H' H'':Nat→Ob} (h:Ext S w β H S' w' β' H') (h':Ext S' w' β' H' S'' w'' β'' H''):Ext S w β H S'' w'' β'' H'':=
 ⟨fun b hb=>⟨(h'.hS b (h.hS b hb).1).1,(h'.hS b (h.hS b hb).1).2.trans (h.hS b hb).2⟩,fun k=>(h.hO k).trans (h'.hO k)⟩
section
variable {S S':Nat→Prop} {w w':World} {β β':Nat→Cr} {H H':Nat→Ob}
theorem leaf.ext (h:Ext S w β H S' w' β' H'):∀a v,leaf S w β H a v→leaf S' w' β' H' a v:=by
 intro a v hl
 cases a with
 | ptr k off=>
  have hk:=h.hO k
  simp only[leaf] at hl ⊢
  cases ho:H k with
  | none=>rw[ho] at hl;exact hl.elim
  | dead=>rw[ho] at hk hl;rw[show H' k=.dead from hk];exact hl
  | cells e cs=>
   rw[ho] at hk hl
   obtain⟨g,hg,hv⟩:=hl
   rcases hk with e1 | ⟨e1,cs',e2⟩
   · rw[e1,hv];exact⟨_,rfl⟩
   · rw[e2];exact⟨g,e1.trans hg,hv⟩
  | row e t xs=>rw[ho] at hl;exact hl.elim
  | prow e xs=>rw[ho] at hl;exact hl.elim
  | map ag t0 es=>rw[ho] at hl;exact hl.elim
  | mit m n seen cur=>rw[ho] at hl;exact hl.elim
  | orow e0 t0 xs=>rw[ho] at hl;exact hl.elim
  | hrow e0 t0 xs i0 off0=>rw[ho] at hl;exact hl.elim
 | row k=>
  have hk:=h.hO k
  simp only[leaf] at hl ⊢
  cases ho:H k with
  | none=>rw[ho] at hl;exact hl.elim
  | dead=>rw[ho] at hk hl;rw[show H' k=.dead from hk];exact hl
  | cells e cs=>rw[ho] at hl;exact hl.elim
  | row e t xs=>
   rw[ho] at hk hl
   rcases hk with e1 | ⟨e1,xs',e2,e3⟩
   · rw[e1,show v=rowV (β k) xs.length from hl];exact rowV_one _ _
   · rw[e2];rw[e1];show v=rowV (β k) xs'.length;rw[e3];exact hl
  | prow e xs=>rw[ho] at hl;exact hl.elim
  | map ag t0 es=>rw[ho] at hl;exact hl.elim
  | mit m n seen cur=>rw[ho] at hl;exact hl.elim
  | orow e t xs=>
   rw[ho] at hk hl
   have hl:v=rowV (β k) xs.length:=hl
   rcases hk with e1 | ⟨e1,e0,xs',e2,e3⟩
   · rw[e1,hl];exact rowV_one _ _
   · have hv:v=rowV (β' k) xs'.length:=by rw[hl,e3];unfold rowV;rw[e1,e0]
     rcases e2 with e2 | ⟨i1,off1,e2⟩<;>rw[e2]<;>exact hv
  | hrow e t xs i0 off0=>
   rw[ho] at hk hl
   have hl:v=rowV (β k) xs.length:=hl
   rcases hk with e1 | ⟨e1,e0,xs',e2,e3⟩
   · rw[e1,hl];exact rowV_one _ _
   · have hv:v=rowV (β' k) xs'.length:=by rw[hl,e3];unfold rowV;rw[e1,e0]
     rcases e2 with e2 | ⟨i1,off1,e2⟩<;>rw[e2]<;>exact hv
 | rptr k i off=>
  have hk:=h.hO k
  simp only[leaf] at hl ⊢
  cases ho:H k with
  | none=>rw[ho] at hl;exact hl.elim
  | dead=>rw[ho] at hk hl;rw[show H' k=.dead from hk];exact hl
  | cells e cs=>rw[ho] at hl;exact hl.elim
  | row e t xs=>
   rw[ho] at hk hl
   obtain⟨g,hg,h0,h1,hv⟩:=hl
   rcases hk with e1 | ⟨e1,xs',e2,e3⟩
   · rw[e1,hv];exact⟨_,rfl⟩
   · rw[e2];exact⟨g,by rw[e1];exact hg,h0,by rw[e3];exact h1,hv⟩
  | prow e xs=>rw[ho] at hl;exact hl.elim
  | map ag t0 es=>rw[ho] at hl;exact hl.elim
  | mit m n seen cur=>rw[ho] at hl;exact hl.elim
  | orow e t xs=>
   rw[ho] at hk hl
   obtain⟨g,hg,h0,h1,hv⟩:=hl
   rcases hk with e1 | ⟨e1,e0,xs',e2,e3⟩
   · rw[e1,hv];exact⟨_,rfl⟩
   · rcases e2 with e2 | ⟨i1,off1,e2⟩<;>rw[e2]<;>exact⟨g,by rw[e1];exact hg,h0,by rw[e3];exact h1,hv⟩
  | hrow e t xs i0 off0=>
   rw[ho] at hk hl
   obtain⟨g,hg,h0,h1,hv⟩:=hl
   rcases hk with e1 | ⟨e1,e0,xs',e2,e3⟩
   · rw[e1,hv];exact⟨_,rfl⟩
   · rcases e2 with e2 | ⟨i1,off1,e2⟩<;>rw[e2]<;>exact⟨g,by rw[e1];exact hg,h0,by rw[e3];exact h1,hv⟩
 | view k lo n e t=>
  have hk:=h.hO k
  simp only[leaf] at hl ⊢
  cases ho:H k with
  | none=>rw[ho] at hl;exact hl.elim
  | dead=>rw[ho] at hk hl;rw[show H' k=.dead from hk];exact hl
  | cells e cs=>
   rw[ho] at hk hl
   obtain⟨ao,c,hv,h1,h2,h3⟩:=hl
   rcases hk with e1 | ⟨e1,cs',e2⟩
   · rw[e1,hv];rfl
   · rw[e2];exact⟨ao,c,hv,h1,fun hn=>by obtain⟨g,q1,q2⟩:=h2 hn;exact⟨g,e1.trans q1,q2⟩,h3⟩
  | row e' t' xs=>
   rw[ho] at hk hl
   obtain⟨ao,c,hv,h0,h1,h2,h3⟩:=hl
   rcases hk with e1 | ⟨e1,xs',e2,e3⟩
   · rw[e1,hv];rfl
   · rw[e2];exact⟨ao,c,hv,h0,by rw[e3];exact h1,fun hn=>by obtain⟨g,q1,q2⟩:=h2 hn;exact⟨g,by rw[e1];exact q1,q2⟩,h3⟩
  | prow e' xs=>rw[ho] at hl;exact hl.elim
  | map ag t0 es=>rw[ho] at hl;exact hl.elim
  | mit m n seen cur=>rw[ho] at hl;exact hl.elim
  | orow e0 t0 xs=>rw[ho] at hl;exact hl.elim
  | hrow e0 t0 xs i0 off0=>rw[ho] at hl;exact hl.elim
 | prow k=>
  have hk:=h.hO k
  simp only[leaf] at hl ⊢
  cases ho:H k with
  | none=>rw[ho] at hl;exact hl.elim
  | dead=>rw[ho] at hk hl;rw[show H' k=.dead from hk];exact hl
  | cells e cs=>rw[ho] at hl;exact hl.elim
  | row e' t' xs=>rw[ho] at hl;exact hl.elim
  | prow e xs=>
   rw[ho] at hk hl
   rcases hk with e1 | ⟨e1,xs',e2,e3⟩
   · rw[e1,show v=rowV (β k) xs.length from hl];exact rowV_one _ _
   · rw[e2];rw[e1];show v=rowV (β k) xs'.length;rw[e3];exact hl
  | map ag t0 es=>rw[ho] at hl;exact hl.elim
  | mit m n seen cur=>rw[ho] at hl;exact hl.elim
  | orow e0 t0 xs=>rw[ho] at hl;exact hl.elim
  | hrow e0 t0 xs i0 off0=>rw[ho] at hl;exact hl.elim
 | pptr k i=>
  have hk:=h.hO k
  simp only[leaf] at hl ⊢
  cases ho:H k with
  | none=>rw[ho] at hl;exact hl.elim
  | dead=>rw[ho] at hk hl;rw[show H' k=.dead from hk];exact hl
  | cells e cs=>rw[ho] at hl;exact hl.elim
  | row e' t' xs=>rw[ho] at hl;exact hl.elim
  | prow e xs=>
   rw[ho] at hk hl
   obtain⟨g,hg,h1,hv⟩:=hl
   rcases hk with e1 | ⟨e1,xs',e2,e3⟩
   · rw[e1,hv];exact⟨_,rfl⟩
   · rw[e2];exact⟨g,by rw[e1];exact hg,by rw[e3];exact h1,hv⟩
  | map ag t0 es=>rw[ho] at hl;exact hl.elim
  | mit m n seen cur=>rw[ho] at hl;exact hl.elim
  | orow e0 t0 xs=>rw[ho] at hl;exact hl.elim
  | hrow e0 t0 xs i0 off0=>rw[ho] at hl;exact hl.elim
 | mp k=>
  have hk:=h.hO k
  simp only[leaf] at hl ⊢
  cases ho:H k with
  | dead=>rw[ho] at hk hl;rw[show H' k=.dead from hk];exact hl
  | map ag t es=>
   rw[ho] at hk hl
   obtain⟨g,hg,hv⟩:=hl
   rcases hk with e1 | ⟨e1,es',e2⟩
   · rw[e1,hv];rfl
   · rw[e2];exact⟨g,e1.trans hg,hv⟩
  | _=>rw[ho] at hl;exact hl.elim
 | nptr k=>
  have hk:=h.hO k
  simp only[leaf] at hl ⊢
  cases ho:H k with
  | dead=>rw[ho] at hk hl;rw[show H' k=.dead from hk];exact hl
  | cells e cs=>
   rw[ho] at hk hl
   obtain⟨g,hg,hv⟩:=hl
   rcases hk with e1 | ⟨e1,cs',e2⟩
   · rw[e1];rcases hv with rfl | rfl<;>rfl
   · rw[e2];exact⟨g,e1.trans hg,hv⟩
  | _=>rw[ho] at hl;exact hl.elim
 | itr k=>
  have hk:=h.hO k
  simp only[leaf] at hl ⊢
  cases ho:H k with
  | dead=>rw[ho] at hk hl;rw[show H' k=.dead from hk];exact hl
  | mit m n seen cur=>
   rw[ho] at hk hl
   obtain⟨g,hg,hv⟩:=hl
   rcases hk with e1 | ⟨e1,m',n',s',c',e2⟩
   · rw[e1,hv];rfl
   · rw[e2];exact⟨g,e1.trans hg,hv⟩
  | _=>rw[ho] at hl;exact hl.elim
 | list e t xs=>exact DR.mono h.hS _ _ _ hl
 | tl e t xs=>exact⟨DR.mono h.hS (.list e t) xs _ hl.1,hl.2⟩
 | lptr e t xs i off=>
  obtain⟨h0,h1,ad,es,hc,hr,hv⟩:=hl
  exact⟨h0,h1,ad,es,Cat.mono (DR.mono h.hS t) _ _ hc,hr.mono h.hS,hv⟩
 | _=>exact hl
theorem VL.ext (h:Ext S w β H S' w' β' H'):∀a vs,VL S w β H a vs→VL S' w' β' H' a vs
 | .nl,_,hv=>hv
 | .cons a b,_,⟨v,r,e,h1,h2⟩=>⟨v,r,e,VL.ext h a _ h1,VL.ext h b _ h2⟩
 | .agg c,_,⟨cs,e,h1⟩=>⟨cs,e,VL.ext h c _ h1⟩
 | .tuple c,_,⟨cs,e,h1⟩=>⟨cs,e,VL.ext h c _ h1⟩
 | .fn _ a c,_,⟨x,y,e,h1,h2⟩=>⟨x,y,e,VL.ext h a _ h1,VL.ext h c _ h2⟩
 | .iface _ a,_,⟨v,e,h1⟩=>⟨v,e,VL.ext h a _ h1⟩
 | .undef,_,⟨v,e,h1⟩=>⟨v,e,leaf.ext h _ _ h1⟩
 | .int _ _,_,⟨v,e,h1⟩=>⟨v,e,leaf.ext h _ _ h1⟩
 | .bool _,_,⟨v,e,h1⟩=>⟨v,e,leaf.ext h _ _ h1⟩
 | .str _,_,⟨v,e,h1⟩=>⟨v,e,leaf.ext h _ _ h1⟩
 | .nilp,_,⟨v,e,h1⟩=>⟨v,e,leaf.ext h _ _ h1⟩
 | .nilf,_,⟨v,e,h1⟩=>⟨v,e,leaf.ext h _ _ h1⟩
 | .nili,_,⟨v,e,h1⟩=>⟨v,e,leaf.ext h _ _ h1⟩
 | .nil0,_,⟨v,e,h1⟩=>⟨v,e,leaf.ext h _ _ h1⟩
 | .nils _ _,_,⟨v,e,h1⟩=>⟨v,e,leaf.ext h _ _ h1⟩
 | .ptr _ _,_,⟨v,e,h1⟩=>⟨v,e,leaf.ext h _ _ h1⟩
 | .row _,_,⟨v,e,h1⟩=>⟨v,e,leaf.ext h _ _ h1⟩
 | .rptr _ _ _,_,⟨v,e,h1⟩=>⟨v,e,leaf.ext h _ _ h1⟩
 | .list _ _ _,_,⟨v,e,h1⟩=>⟨v,e,leaf.ext h _ _ h1⟩
 | .tl _ _ _,_,⟨v,e,h1⟩=>⟨v,e,leaf.ext h _ _ h1⟩
 | .lptr _ _ _ _ _,_,⟨v,e,h1⟩=>⟨v,e,leaf.ext h _ _ h1⟩
 | .emp _ _,_,⟨v,e,h1⟩=>⟨v,e,leaf.ext h _ _ h1⟩
 | .view _ _ _ _ _,_,⟨v,e,h1⟩=>⟨v,e,leaf.ext h _ _ h1⟩
 | .prow _,_,⟨v,e,h1⟩=>⟨v,e,leaf.ext h _ _ h1⟩
 | .pptr _ _,_,⟨v,e,h1⟩=>⟨v,e,leaf.ext h _ _ h1⟩
 | .mp _,_,⟨v,e,h1⟩=>⟨v,e,leaf.ext h _ _ h1⟩
 | .nptr _,_,⟨v,e,h1⟩=>⟨v,e,leaf.ext h _ _ h1⟩
 | .itr _,_,⟨v,e,h1⟩=>⟨v,e,leaf.ext h _ _ h1⟩
theorem VLs.ext (h:Ext S w β H S' w' β' H'):∀l vs,VLs S w β H l vs→VLs S' w' β' H' l vs
 | [],_,hv=>hv
 | _::l,_,⟨v,r,e,h1,h2⟩=>⟨v,r,e,VL.ext h _ _ h1,VLs.ext h l _ h2⟩
end
section
variable {S:Nat→Prop} {w:World} {β:Nat→Cr} {H:Nat→Ob}
theorem VLs.length:∀l vs,VLs S w β H l vs→vs.length=l.length
 | [],_,hv=>by cases hv;rfl
 | _::l,_,⟨_,r,e,_,h2⟩=>by cases e;simp[VLs.length l r h2]
theorem VLs.get:∀l vs,VLs S w β H l vs→∀(i:Nat) (a:AV),l[i]? = some a→∃v,vs[i]? = some v∧VL S w β H a [v]
 | [],_,_,i,a,hi=>by simp at hi
 | b::l,_,⟨v,r,e,h1,h2⟩,0,a,hi=>by simp at hi;subst hi;exact⟨v,by rw[e];rfl,h1⟩
 | b::l,_,⟨v,r,e,h1,h2⟩,i+1,a,hi=>by
  obtain⟨u,hu,hv⟩:=VLs.get l r h2 i a (by simpa using hi)
  exact⟨u,by rw[e];simpa using hu,hv⟩
theorem VLs.append:∀l m vs us,VLs S w β H l vs→VLs S w β H m us→VLs S w β H (l++m) (vs++us)
 | [],_,_,_,hv,hu=>by cases hv;exact hu
 | _::l,m,_,us,⟨v,r,e,h1,h2⟩,hu=>⟨v,r++us,by rw[e];rfl,h1,VLs.append l m r us h2 hu⟩
theorem VLs.drop:∀(n:Nat) l vs,VLs S w β H l vs→VLs S w β H (l.drop n) (vs.drop n)
 | 0,_,_,hv=>hv
 | _+1,[],_,hv=>by cases hv;rfl
 | n+1,_::l,_,⟨v,r,e,_,h2⟩=>by cases e;exact VLs.drop n l r h2
theorem VLs.take:∀(n:Nat) l vs,VLs S w β H l vs→VLs S w β H (l.take n) (vs.take n)
 | 0,_,_,hv=>rfl
 | _+1,[],_,hv=>by cases hv;rfl
 | n+1,_::l,_,⟨v,r,e,h1,h2⟩=>by cases e;exact⟨v,r.take n,rfl,h1,VLs.take n l r h2⟩
theorem VLs.set:∀l vs (i:Nat) (a:AV) (u:Value),VLs S w β H l vs→VL S w β H a [u]→VLs S w β H (l.set i a) (vs.set i u)
 | [],_,_,_,_,hv,_=>by cases hv;rfl
 | _::l,_,0,a,u,⟨v,r,e,h1,h2⟩,hu=>by cases e;exact⟨u,r,rfl,hu,h2⟩
 | _::l,_,i+1,a,u,⟨v,r,e,h1,h2⟩,hu=>by cases e;exact⟨v,r.set i u,rfl,h1,VLs.set l r i a u h2 hu⟩
theorem VLs.one {a:AV} {vs:List Value} (h:VLs S w β H [a] vs):∃v,vs=[v]∧VL S w β H a [v]:=by
 obtain⟨v,r,e,h1,h2⟩:=h
 cases h2
 exact⟨v,e,h1⟩
theorem VLs.mk1 {a:AV} {v:Value} (h:VL S w β H a [v]):VLs S w β H [a] [v]:=⟨v,[],rfl,h,rfl⟩
theorem VL.toList:∀c vs,VL S w β H (.agg c) [.agg vs]→∃cs,vs=cs.toArray∧VL S w β H c cs:=by
 intro c vs h
 obtain⟨cs,e,h1⟩:=h
 simp at e
 exact⟨cs,e,h1⟩
theorem VL.list_of:∀c vs,c.chain=true→VL S w β H c vs→VLs S w β H c.toList vs
 | .nl,_,_,hv=>hv
 | .cons _ b,_,hc,⟨v,r,e,h1,h2⟩=>⟨v,r,e,h1,VL.list_of b r hc h2⟩
theorem VLs.of_list:∀l vs,VLs S w β H l vs→VL S w β H (AV.ofList l) vs
 | [],_,hv=>hv
 | _::l,_,⟨v,r,e,h1,h2⟩=>⟨v,r,e,h1,VLs.of_list l r h2⟩
theorem VL.one_of {a:AV} {v:Value} (h1:a.one=true) (h:VL S w β H a [v]):v.oneCell'=true:=by
 cases a with
 | undef=>simp[AV.one] at h1
 | agg c=>simp[AV.one] at h1
 | tuple c=>simp[AV.one] at h1
 | nl=>simp[AV.one] at h1
 | cons a b=>simp[AV.one] at h1
 | fn f a c=>obtain⟨x,y,e,_⟩:=h;cases e;rfl
 | iface t a=>obtain⟨x,e,_⟩:=h;cases e;rfl
 | ptr k off=>
  obtain⟨u,e,hl⟩:=h
  cases e
  simp only[leaf] at hl
  split at hl
  · obtain⟨g,_,rfl⟩:=hl;rfl
  · obtain⟨_,rfl⟩:=hl;rfl
  · exact hl.elim
 | row k=>
  obtain⟨u,e,hl⟩:=h
  cases e
  simp only[leaf] at hl
  split at hl
  · rw[hl];exact rowV_one _ _
  · rw[hl];exact rowV_one _ _
  · rw[hl];exact rowV_one _ _
  · exact hl
  · exact hl.elim
 | rptr k i off=>
  obtain⟨u,e,hl⟩:=h
  cases e
  simp only[leaf] at hl
  split at hl
  · obtain⟨g,_,_,_,rfl⟩:=hl;rfl
  · obtain⟨g,_,_,_,rfl⟩:=hl;rfl
  · obtain⟨g,_,_,_,rfl⟩:=hl;rfl
  · obtain⟨_,rfl⟩:=hl;rfl
  · exact hl.elim
 | tl e t xs=>
  obtain⟨u,e,hl⟩:=h
  cases e
  obtain⟨_,a,n,rfl⟩:=hl
  rfl
 | list e t xs=>
  obtain⟨u,e,hl⟩:=h
  cases e
  exact DR.oneCell _ _ _ hl v (by simp)
 | lptr e t xs i off=>
  obtain⟨u,e,hl⟩:=h
  cases e
  obtain⟨_,_,ad,es,_,_,rfl⟩:=hl
  rfl
 | int k n=>obtain⟨u,e,hl⟩:=h;cases e;cases hl;rfl
 | bool b=>obtain⟨u,e,hl⟩:=h;cases e;cases hl;rfl
 | str s=>obtain⟨u,e,hl⟩:=h;cases e;cases hl;rfl
 | nilp=>obtain⟨u,e,hl⟩:=h;cases e;cases hl;rfl
 | nilf=>obtain⟨u,e,hl⟩:=h;cases e;cases hl;rfl
 | nili=>obtain⟨u,e,hl⟩:=h;cases e;cases hl;rfl
 | nil0=>obtain⟨u,e,hl⟩:=h;cases e;cases hl;rfl
 | nils e t=>obtain⟨u,e,hl⟩:=h;cases e;cases hl;rfl
 | emp e t=>obtain⟨u,e,hl⟩:=h;cases e;obtain⟨ad,c,rfl⟩:=hl;rfl
 | view k lo n e t=>
  obtain⟨u,e,hl⟩:=h
  cases e
  simp only[leaf] at hl
  split at hl
  · obtain⟨_,_,rfl,_⟩:=hl;rfl
  · obtain⟨_,_,rfl,_⟩:=hl;rfl
  · exact hl
  · exact hl.elim
 | prow k=>
  obtain⟨u,e,hl⟩:=h
  cases e
  simp only[leaf] at hl
  split at hl
  · rw[hl];exact rowV_one _ _
  · exact hl
  · exact hl.elim
 | pptr k i=>
  obtain⟨u,e,hl⟩:=h
  cases e
  simp only[leaf] at hl
  split at hl
  · obtain⟨g,_,_,rfl⟩:=hl;rfl
  · obtain⟨_,rfl⟩:=hl;rfl
  · exact hl.elim
 | mp k=>
  obtain⟨u,e,hl⟩:=h
  cases e
  simp only[leaf] at hl
  split at hl
  · obtain⟨g,_,rfl⟩:=hl;rfl
  · exact hl
  · exact hl.elim
 | nptr k=>
  obtain⟨u,e,hl⟩:=h
  cases e
  simp only[leaf] at hl
  split at hl
  · obtain⟨g,_,hl⟩:=hl;rcases hl with rfl | rfl<;>rfl
  · exact hl
  · exact hl.elim
 | itr k=>
  obtain⟨u,e,hl⟩:=h
  cases e
  simp only[leaf] at hl
  split at hl
  · obtain⟨g,_,rfl⟩:=hl;rfl
  · exact hl
  · exact hl.elim
theorem cells_one {v:Value} (h:v.oneCell'=true):v.cells = #[v]:=by
 cases v<;>first | rfl | simp[Value.oneCell'] at h
theorem VLs.ones:∀l vs,l.all AV.one=true→VLs S w β H l vs→∀u∈vs,u.oneCell'=true
 | [],_,_,hv=>by cases hv;simp
 | a::l,_,h1,⟨v,r,e,h2,h3⟩=>by
  simp only[List.all_cons,Bool.and_eq_true] at h1
  intro u hu
  rw[e] at hu
  rcases List.mem_cons.1 hu with rfl | hu
  · exact VL.one_of h1.1 h2
  · exact VLs.ones l r h1.2 h3 u hu
theorem VL.cells_of {a:AV} {v:Value} {l:List AV} (hl:a.cells? = some l) (h:VL S w β H a [v]):VLs S w β H l v.cells.toList∧∀u∈v.cells.toList,u.oneCell'=true:=by
 have one:∀a:AV,a.one=true→VL S w β H a [v]→VLs S w β H [a] v.cells.toList∧∀u∈v.cells.toList,u.oneCell'=true:=by
  intro a h1 h
  have hv:=VL.one_of h1 h
  rw[cells_one hv]
  exact⟨VLs.mk1 h,by simpa using hv⟩
 cases a with
 | agg c=>
  simp only[AV.cells?] at hl
  split at hl
  · rename_i hc
    cases hl
    simp only[Bool.and_eq_true] at hc
    obtain⟨cs,e,h1⟩:=h
    cases e
    have hv:=VL.list_of c cs hc.1 h1
    simp only[Value.cells]
    exact⟨hv,VLs.ones _ _ hc.2 hv⟩
  · cases hl
 | undef=>simp[AV.cells?,AV.one] at hl
 | tuple c=>simp[AV.cells?,AV.one] at hl
 | nl=>simp[AV.cells?,AV.one] at hl
 | cons a b=>simp[AV.cells?,AV.one] at hl
 | _=>
  simp only[AV.cells?,AV.one,if_true] at hl
  cases hl
  exact one _ rfl h
theorem VLs.putL:∀l vs (o:Nat) ys us,VLs S w β H l vs→VLs S w β H ys us→o+us.length≤vs.length→VLs S w β H (putL l o ys) (vs.take o++us++vs.drop (o+us.length)):=by
 intro l vs o ys
 induction ys generalizing l vs o with
 | nil=>
  intro us hv hu _
  cases hu
  simpa [Aw.putL] using hv
 | cons y ys ih=>
  intro us hv hu hl
  obtain⟨u,r,e,h1,h2⟩:=hu
  subst e
  have hset:=VLs.set l vs o y u hv h1
  have:=ih (l.set o y) (vs.set o u) (o+1) r hset h2 (by simp at hl ⊢;omega)
  simp only[Aw.putL]
  have e:List.take (o+1) (vs.set o u)++r++List.drop (o+1+r.length) (vs.set o u)=List.take o vs++(u::r)++List.drop (o+(u::r).length) vs:=by
   have hlo:o<vs.length:=by simp at hl;omega
   rw[List.take_succ_eq_append_getElem (by simpa using hlo),List.take_set_of_le (Nat.le_refl o),List.drop_set_of_lt (by omega)]
   simp[Nat.add_assoc,Nat.add_comm 1]
  rw[e] at this
  exact this
end
section
variable {S:Nat→Prop} {w:World} {β:Nat→Cr} {H:Nat→Ob}
theorem enc_of:∀(t:Ty) (x:t.den) cs,DR S w t x cs→VLs S w β H (enc t x) cs
 | .int _,_,_,hc=>by cases hc;exact⟨_,_,rfl,⟨_,rfl,rfl⟩,rfl⟩
 | .bool,_,_,hc=>by cases hc;exact⟨_,_,rfl,⟨_,rfl,rfl⟩,rfl⟩
 | .str,_,_,hc=>by cases hc;exact⟨_,_,rfl,⟨_,rfl,rfl⟩,rfl⟩
 | .list e t,xs,cs,hc=>by
  have hc':=hc
  obtain⟨a,n,c,es,e1,_⟩:=hc'
  subst e1
  exact⟨_,_,rfl,⟨_,rfl,hc⟩,rfl⟩
 | .pair a b,x,_,⟨c1,c2,e,h1,h2⟩=>by rw[e];exact VLs.append _ _ _ _ (enc_of a _ _ h1) (enc_of b _ _ h2)
 | .unit,_,_,hc=>hc
 | .ol _ _,_,_,⟨_,_,_,_,e,_⟩=>by rw[e];exact⟨_,_,rfl,⟨_,rfl,trivial⟩,rfl⟩
theorem enc_ofO:∀(t:Ty) (x:t.den) cs F,DRo S w t x cs F→VLs S w β H (enc t x) cs
 | .int _,_,_,_,hc=>enc_of _ _ _ hc.1
 | .bool,_,_,_,hc=>enc_of _ _ _ hc.1
 | .str,_,_,_,hc=>enc_of _ _ _ hc.1
 | .list _ _,_,_,_,hc=>enc_of _ _ _ hc.1
 | .unit,_,_,_,hc=>enc_of _ _ _ hc.1
 | .pair a b,x,_,_,⟨c1,c2,F1,F2,e,_,h1,h2⟩=>by rw[e];exact VLs.append _ _ _ _ (enc_ofO a _ _ _ h1) (enc_ofO b _ _ _ h2)
 | .ol _ _,_,_,_,hc=>by rcases hc with ⟨e,_⟩ | ⟨_,_,_,e,_⟩<;>rw[e]<;>exact⟨_,_,rfl,⟨_,rfl,trivial⟩,rfl⟩
end
section
variable {S:Nat→Prop} {w:World} {β:Nat→Cr} {H:Nat→Ob}
theorem dec_of:∀(t:Ty) (l:List AV) (vs:List Value) (x:t.den) (r:List AV),VLs S w β H l vs→dec t l=some (x,r)→∃cs us,vs=cs++us∧DR S w t x cs∧VLs S w β H r us:=by
 intro t
 induction t with
 | int k=>
  intro l vs x r hv hd
  match l,hd with
  | .int k' n::r',hd=>
   obtain⟨v,us,e,h1,h2⟩:=hv
   simp only[dec] at hd
   split at hd
   · rename_i hk
     subst hk
     cases hd
     obtain⟨u,e1,hl⟩:=h1
     cases e1
     exact⟨[v],us,e,by rw[show v=.int k x from hl];rfl,h2⟩
   · cases hd
 | bool=>
  intro l vs x r hv hd
  match l,hd with
  | .bool b::r',hd=>
   obtain⟨v,us,e,h1,h2⟩:=hv
   simp only[dec] at hd
   cases hd
   obtain⟨u,e1,hl⟩:=h1
   cases e1
   exact⟨[v],us,e,by rw[show v=.bool x from hl];rfl,h2⟩
 | str=>
  intro l vs x r hv hd
  match l,hd with
  | .str b::r',hd=>
   obtain⟨v,us,e,h1,h2⟩:=hv
   simp only[dec] at hd
   cases hd
   obtain⟨u,e1,hl⟩:=h1
   cases e1
   exact⟨[v],us,e,by rw[show v=.string x from hl];rfl,h2⟩
 | list e t _=>
  intro l vs x r hv hd
  match l,hd with
  | .list e' t' xs::r',hd=>
   obtain⟨v,us,e1,h1,h2⟩:=hv
   simp only[dec] at hd
   split at hd
   · rename_i hk
     obtain⟨rfl,rfl⟩:=hk
     cases hd
     obtain⟨u,e2,hl⟩:=h1
     cases e2
     exact⟨[v],us,e1,hl,h2⟩
   · cases hd
  | .nils e' t'::r',hd=>
   obtain⟨v,us,e1,h1,h2⟩:=hv
   simp only[dec] at hd
   split at hd
   · cases hd
     obtain⟨u,e2,hl⟩:=h1
     cases e2
     exact⟨[v],us,e1,⟨none,0,0,[],by rw[show v=.slice none 0 0 from hl],rfl,Nat.le_refl _,rfl,⟨fun j u hj=>by simp at hj,fun _=>rfl⟩⟩,h2⟩
   · cases hd
 | pair a b iha ihb=>
  intro l vs x r hv hd
  simp only[dec] at hd
  split at hd
  · rename_i y l' h1
    split at hd
    · rename_i z l'' h2
      cases hd
      obtain⟨c1,u1,e1,d1,v1⟩:=iha l vs y l' hv h1
      obtain⟨c2,u2,e2,d2,v2⟩:=ihb l' u1 z r v1 h2
      exact⟨c1++c2,u2,by rw[e1,e2,List.append_assoc],⟨c1,c2,rfl,d1,d2⟩,v2⟩
    · cases hd
  · cases hd
 | unit=>
  intro l vs x r hv hd
  simp only[dec] at hd
  cases hd
  exact⟨[],vs,rfl,rfl,hv⟩
 | ol e t _=>
  intro l vs x r hv hd
  match l,hd with
  | .nils e' t'::r',hd=>
   obtain⟨v,us,e1,h1,h2⟩:=hv
   simp only[dec] at hd
   split at hd
   · cases hd
     obtain⟨u,e2,hl⟩:=h1
     cases e2
     exact⟨[v],us,e1,⟨none,0,0,[],by rw[show v=.slice none 0 0 from hl],rfl,Nat.le_refl _,rfl,⟨fun j u hj=>by simp at hj,fun _=>rfl⟩⟩,h2⟩
   · cases hd
theorem dec_ofO:∀(t:Ty) (l:List AV) (vs:List Value) (x:t.den) (r:List AV),VLs S w β H l vs→dec t l=some (x,r)→∃cs us,vs=cs++us∧DRo S w t x cs []∧VLs S w β H r us:=by
 intro t
 induction t with
 | pair a b iha ihb=>
  intro l vs x r hv hd
  simp only[dec] at hd
  split at hd
  · rename_i y l' h1
    split at hd
    · rename_i z l'' h2
      cases hd
      obtain⟨c1,u1,e1,d1,v1⟩:=iha l vs y l' hv h1
      obtain⟨c2,u2,e2,d2,v2⟩:=ihb l' u1 z r v1 h2
      exact⟨c1++c2,u2,by rw[e1,e2,List.append_assoc],⟨c1,c2,[],[],rfl,rfl,d1,d2⟩,v2⟩
    · cases hd
  · cases hd
 | ol e t _=>
  intro l vs x r hv hd
  match l,hd with
  | .nils e' t'::r',hd=>
   obtain⟨v,us,e1,h1,h2⟩:=hv
   simp only[dec] at hd
   split at hd
   · cases hd
     obtain⟨u,e2,hl⟩:=h1
     cases e2
     exact⟨[v],us,e1,.inl ⟨by rw[show v=.slice none 0 0 from hl],rfl,rfl⟩,h2⟩
   · cases hd
 | int k=>intro l vs x r hv hd;obtain⟨cs,us,e,d,v⟩:=dec_of _ l vs x r hv hd;exact⟨cs,us,e,⟨d,rfl⟩,v⟩
 | bool=>intro l vs x r hv hd;obtain⟨cs,us,e,d,v⟩:=dec_of _ l vs x r hv hd;exact⟨cs,us,e,⟨d,rfl⟩,v⟩
 | str=>intro l vs x r hv hd;obtain⟨cs,us,e,d,v⟩:=dec_of _ l vs x r hv hd;exact⟨cs,us,e,⟨d,rfl⟩,v⟩
 | list e t=>intro l vs x r hv hd;obtain⟨cs,us,e,d,v⟩:=dec_of _ l vs x r hv hd;exact⟨cs,us,e,⟨d,rfl⟩,v⟩
 | unit=>intro l vs x r hv hd;obtain⟨cs,us,e,d,v⟩:=dec_of _ l vs x r hv hd;exact⟨cs,us,e,⟨d,rfl⟩,v⟩
theorem dec1_ofO {t:Ty} {l:List AV} {vs:List Value} {x:t.den} (hv:VLs S w β H l vs) (hd:dec1 t l=some x):DRo S w t x vs []:=by
 unfold dec1 at hd
 split at hd
 · rename_i y h1
   cases hd
   obtain⟨cs,us,e,d,v⟩:=dec_ofO t l vs x [] hv h1
   cases v
   rw[e,List.append_nil]
   exact d
 · cases hd
theorem decs_ofO {t:Ty}:∀(n:Nat) (l:List AV) (vs:List Value) (xs:List t.den),VLs S w β H l vs→decs t n l=some xs→CatO S w t xs vs []∧xs.length=n
 | 0,l,vs,xs,hv,hd=>by
  cases l with
  | nil=>simp only[decs] at hd;cases hd;cases hv;exact⟨⟨rfl,rfl⟩,rfl⟩
  | cons a l=>simp only[decs] at hd;cases hd
 | n+1,l,vs,xs,hv,hd=>by
  simp only[decs] at hd
  split at hd
  · rename_i x r h1
    split at hd
    · rename_i ys h2
      cases hd
      obtain⟨cs,us,e,d,v⟩:=dec_ofO t l vs x r hv h1
      obtain⟨h3,h4⟩:=decs_ofO n r us ys v h2
      exact⟨⟨cs,us,[],[],e,rfl,d,h3⟩,by rw[List.length_cons,h4]⟩
    · cases hd
  · cases hd
theorem updD_of:∀(t:Ty) (x y:t.den) (cs:List Value) (F:List Nat) (off:Nat) (l:List AV) (us:List Value),DRo S w t x cs F→VLs S w β H l us→updD t x off l=some y→off+us.length≤cs.length→DRo S w t y (cs.take off++us++cs.drop (off+us.length)) F:=by
 have flat:∀(t:Ty) (y:t.den) (vs:List Value),t.noOl=true→DRo S w t y vs []→∀(x:t.den) cs F,DRo S w t x cs F→F=[]:=by
  intro t
  induction t with
  | pair a b iha ihb=>
   intro y vs hn ⟨_,_,F1,F2,_,e,h1,h2⟩ x cs F ⟨_,_,G1,G2,_,e',h1',h2'⟩
   simp only[Ty.noOl,Bool.and_eq_true] at hn
   simp only[List.nil_eq,List.append_eq_nil_iff] at e
   obtain⟨rfl,rfl⟩:=e
   rw[e',iha _ _ hn.1 h1 _ _ _ h1',ihb _ _ hn.2 h2 _ _ _ h2']
   rfl
  | ol e t _=>intro y vs hn;cases hn
  | _=>intro y vs _ _ x cs F h;exact h.2
 have simple:∀(t:Ty) (x y:t.den) (cs:List Value) (F:List Nat) (off:Nat) (l:List AV) (us:List Value),(bif off==0 then dec1 t l else none)=some y→t.noOl=true→DRo S w t x cs F→VLs S w β H l us→off+us.length≤cs.length→DRo S w t y (cs.take off++us++cs.drop (off+us.length)) F:=by
  intro t x y cs F off l us hd hn h hv hle
  cases ho:(off==0)
  · rw[ho] at hd;cases hd
  · rw[ho] at hd
    simp only[cond_true] at hd
    have:off=0:=by simpa using ho
    subst this
    have h1:=dec1_ofO hv hd
    have l1:=DRo.length _ _ _ _ h1
    have l2:=DRo.length _ _ _ _ h
    have hF:=flat t y us hn h1 x cs F h
    subst hF
    have:cs.drop (0+us.length)=[]:=List.drop_eq_nil_of_le (by omega)
    rw[this]
    simpa using h1
 intro t
 induction t with
 | pair a b iha ihb=>
  intro x y cs F off l us h hv hd hle
  have hlv:=VLs.length _ _ hv
  have hall:=h
  obtain⟨c1,c2,F1,F2,e,e2,h1,h2⟩:=h
  have l1:=DRo.length _ _ _ _ h1
  have l2:=DRo.length _ _ _ _ h2
  simp only[updD] at hd
  cases hc:(off==0&&l.length==a.size+b.size)
  · rw[hc] at hd
    simp only[cond_false] at hd
    cases hc1:(off+l.length).ble a.size
    · rw[hc1] at hd
      simp only[cond_false] at hd
      cases hc2:a.size.ble off
      · rw[hc2] at hd;cases hd
      · rw[hc2] at hd
        simp only[cond_true] at hd
        split at hd
        · rename_i z hz
          cases hd
          have hge:a.size≤off:=Nat.le_of_ble_eq_true hc2
          rw[e,List.length_append] at hle
          have h3:=ihb x.2 z c2 F2 (off-a.size) l us h2 hv hz (by omega)
          refine⟨c1,_,F1,F2,?_,e2,h1,h3⟩
          rw[e,List.take_append,List.drop_append,List.take_of_length_le (by omega),List.drop_eq_nil_of_le (by omega),l1]
          rw[show off+us.length-a.size=off-a.size+us.length by omega]
          simp
        · cases hd
    · rw[hc1] at hd
      simp only[cond_true] at hd
      split at hd
      · rename_i z hz
        cases hd
        have hle1:off+l.length≤a.size:=Nat.le_of_ble_eq_true hc1
        have h3:=iha x.1 z c1 F1 off l us h1 hv hz (by omega)
        refine⟨_,c2,F1,F2,?_,e2,h3,h2⟩
        rw[e,List.take_append,List.drop_append,show off-c1.length=0 by omega,show off+us.length-c1.length=0 by omega]
        simp
      · cases hd
  · rw[hc] at hd
    simp only[cond_true] at hd
    simp only[Bool.and_eq_true,beq_iff_eq] at hc
    obtain⟨rfl,hlen⟩:=hc
    cases hn:(a.noOl&&b.noOl)
    · rw[hn] at hd;cases hd
    · rw[hn] at hd
      exact simple (.pair a b) x y cs F 0 l us (by simpa using hd) hn hall hv hle
 | ol e t _=>intro x y cs F off l us _ _ hd;cases hd
 | int k=>intro x y cs F off l us h hv hd hle;exact simple _ x y cs F off l us hd rfl h hv hle
 | bool=>intro x y cs F off l us h hv hd hle;exact simple _ x y cs F off l us hd rfl h hv hle
 | str=>intro x y cs F off l us h hv hd hle;exact simple _ x y cs F off l us hd rfl h hv hle
 | list e t _=>intro x y cs F off l us h hv hd hle;exact simple _ x y cs F off l us hd rfl h hv hle
 | unit=>intro x y cs F off l us h hv hd hle;exact simple _ x y cs F off l us hd rfl h hv hle
theorem ol_of:∀(t:Ty) (x:t.den) (cs:List Value) (F:List Nat) (off:Nat) (e':TypeId) (t':Ty) (ys:List t'.den),DRo S w t x cs F→getOl t x off=some ⟨e',t',ys⟩ →
 ∃u F1 F2 F3,cs[off]? = some u∧off<t.size∧F=F1++F2++F3∧DRo S w (.ol e' t') ys [u] F2 ∧
  ∀(zs:List t'.den) (u':Value) (F2':List Nat) (y:t.den),DRo S w (.ol e' t') zs [u'] F2'→putOl e' t' zs t x off=some y→DRo S w t y (cs.set off u') (F1++F2'++F3):=by
 intro t
 induction t with
 | pair a b iha ihb=>
  intro x cs F off e' t' ys h hg
  obtain⟨c1,c2,G1,G2,e,e2,h1,h2⟩:=h
  have l1:=DRo.length _ _ _ _ h1
  simp only[getOl] at hg
  cases hc:off.blt a.size
  · rw[hc] at hg
    simp only[cond_false] at hg
    have hge:¬off<a.size:=by rw[←Nat.blt_eq,hc];simp
    obtain⟨u,F1,F2,F3,q1,q2,q3,q4,q5⟩:=ihb x.2 c2 G2 (off-a.size) e' t' ys h2 hg
    refine⟨u,G1++F1,F2,F3,by rw[e,List.getElem?_append_right (by omega),l1];exact q1,by simp only[Ty.size];omega,by rw[e2,q3];simp,q4,fun zs u' F2' y hz hp => ?_⟩
    simp only[putOl,hc,cond_false] at hp
    split at hp
    · rename_i z hz'
      cases hp
      refine⟨c1,_,G1,F1++F2'++F3,?_,by simp,h1,q5 zs u' F2' z hz hz'⟩
      rw[e,List.set_append_right _ _ (by omega),l1]
    · cases hp
  · rw[hc] at hg
    simp only[cond_true] at hg
    have hlt:off<a.size:=by rw[←Nat.blt_eq,hc]
    obtain⟨u,F1,F2,F3,q1,q2,q3,q4,q5⟩:=iha x.1 c1 G1 off e' t' ys h1 hg
    refine⟨u,F1,F2,F3++G2,by rw[e,List.getElem?_append_left (by omega)];exact q1,by simp only[Ty.size];omega,by rw[e2,q3];simp,q4,fun zs u' F2' y hz hp => ?_⟩
    simp only[putOl,hc,cond_true] at hp
    split at hp
    · rename_i z hz'
      cases hp
      refine⟨_,c2,F1++F2'++F3,G2,?_,by simp,q5 zs u' F2' z hz hz',h2⟩
      rw[e,List.set_append_left _ _ (by omega)]
    · cases hp
 | ol e t _=>
  intro x cs F off e' t' ys h hg
  cases off with
  | succ n=>simp[getOl] at hg
  | zero=>
   simp only[getOl,Option.some.injEq,Sigma.mk.injEq] at hg
   obtain⟨rfl,hg⟩:=hg
   have:=eq_of_heq hg
   simp only[Sigma.mk.injEq] at this
   obtain⟨rfl,hxy⟩:=this
   have:=eq_of_heq hxy
   subst this
   have hl:=DRo.length _ _ _ _ h
   obtain⟨u,rfl⟩:∃u,cs=[u]:=by
    match cs,hl with
    | [u],_=>exact⟨u,rfl⟩
   refine⟨u,[],F,[],rfl,by simp[Ty.size],by simp,h,fun zs u' F2' y hz hp => ?_⟩
   simp only[putOl] at hp
   simp at hp
   subst hp
   simpa using hz
 | int k=>intro x cs F off e' t' ys _ hg;cases off<;>cases hg
 | bool=>intro x cs F off e' t' ys _ hg;cases off<;>cases hg
 | str=>intro x cs F off e' t' ys _ hg;cases off<;>cases hg
 | list e t _=>intro x cs F off e' t' ys _ hg;cases off<;>cases hg
 | unit=>intro x cs F off e' t' ys _ hg;cases off<;>cases hg
theorem dec1_of {t:Ty} {l:List AV} {vs:List Value} {x:t.den} (hv:VLs S w β H l vs) (hd:dec1 t l=some x):DR S w t x vs:=by
 unfold dec1 at hd
 split at hd
 · rename_i y h1
   cases hd
   obtain⟨cs,us,e,d,v⟩:=dec_of t l vs x [] hv h1
   cases v
   rw[e,List.append_nil]
   exact d
 · cases hd
theorem decs_of {t:Ty}:∀(n:Nat) (l:List AV) (vs:List Value) (xs:List t.den),VLs S w β H l vs→decs t n l=some xs→Cat (DR S w t) xs vs∧xs.length=n
 | 0,[],_,_,hv,hd=>by cases hv;simp[decs] at hd;subst hd;exact⟨rfl,rfl⟩
 | 0,_::_,_,_,_,hd=>by simp[decs] at hd
 | n+1,l,vs,xs,hv,hd=>by
  simp only[decs] at hd
  split at hd
  · rename_i x r h1
    split at hd
    · rename_i ys h2
      cases hd
      obtain⟨cs,us,e,d,v⟩:=dec_of t l vs x r hv h1
      obtain⟨hc,hl⟩:=decs_of n r us ys v h2
      exact⟨⟨cs,us,e,d,hc⟩,by simp[hl]⟩
    · cases hd
  · cases hd
end
end Go.Proofs.YtkpjcmiijlpcaaaDoor.Aw
namespace Go.Proofs.YtkpjcmiijlpcaaaDoor.Aw
open Go
theorem ask_drawn {α:Type}:∀(x:Ask α) (w:World),w.drawn≤(w.ask x).2.drawn
 | .done _,_=>Nat.le_refl _
 | .ask what range k,w=>by
  unfold World.ask
  simp only
  split
  · exact ask_drawn (k 0) w
  · exact Nat.le_trans (Nat.le_succ _) (ask_drawn (k _) {w with drawn:=w.drawn+1})
theorem sys_drawn (w:World) (c:Sys):w.drawn≤(w.sys c).2.drawn:=by
 have h:=ask_drawn (Kernel.perform c w.os) w
 unfold World.sys
 split
 · exact Nat.le_refl _
 · rename_i r os w2 hq
   rw[hq] at h
   exact h
theorem far_drawn {p:Program} {w w1:World} {a:Addr} {v:Value} {m:Bool} {l:List Addr} (h:w.farStore p a v m=.ok (w1,l)):w.drawn≤w1.drawn:=by
 unfold World.farStore at h
 split at h
 · split at h
   · rename_i r hr
     cases h
     unfold World.viewStore at hr
     simp only[bind,Except.bind,pure,Except.pure,throw,throwThe,MonadExceptOf.throw] at hr
     repeat' split at hr
     all_goals first | (cases hr;exact Nat.le_refl _) | (cases hr;done)
   · cases h
 · cases h
theorem run_drawn {α:Type} (P:Program):∀(s:Sem α) (w:World) (v:α) (w':World),s.run P w=.ok v w'→w.drawn≤w'.drawn:=by
 intro s
 induction s with
 | pure a=>intro w v w' h;cases h;exact Nat.le_refl _
 | load m a k ih=>
  intro w v w' h
  simp only[Sem.run] at h
  split at h
  · exact ih _ w v w' h
  · split at h
    · exact ih _ w v w' h
    · cases h
 | store m a x k ih=>
  intro w v w' h
  have fin:∀y,(match w.cell? a with
   | some _=>if w.frozen? a then Result.halt (.unsupported (.unsafePointer "a write to bytes that a string shares")) w else k.run P (w.setCell a y)
   | none=>match w.farStore P a y (m==Mode.atomic) with
    | .ok (w,_)=>k.run P w
    | .error h=>.halt h w)=.ok v w'→w.drawn≤w'.drawn:=by
   intro y h
   split at h
   · split at h
     · cases h
     · exact ih (w.setCell a y) v w' h
   · split at h
     · rename_i w1 l hf
       exact Nat.le_trans (far_drawn hf) (ih w1 v w' h)
     · cases h
  cases x<;>first | exact fin _ h | cases h
 | new o k ih=>intro w v w' h;exact ih _ {w with heap:=w.heap.push o} v w' h
 | shape r k ih=>intro w v w' h;exact ih _ w v w' h
 | freeze a n k ih=>
  intro w v w' h
  have:=ih (w.freeze a n) v w' h
  have e:(w.freeze a n).drawn=w.drawn:=by unfold World.freeze;split<;>rfl
  rwa [e] at this
 | frozen a k ih=>intro w v w' h;exact ih _ w v w' h
 | getObj r k ih=>
  intro w v w' h
  simp only[Sem.run] at h
  split at h
  · cases h
  · exact ih _ w v w' h
  · cases h
 | setObj r o k ih=>
  intro w v w' h
  simp only[Sem.run] at h
  split at h
  · cases h
  · exact ih {w with heap:=w.heap.setIfInBounds r o} v w' h
  · cases h
 | choose q k ih=>
  intro w v w' h
  simp only[Sem.run] at h
  split at h
  · exact ih _ w v w' h
  · exact Nat.le_trans (Nat.le_succ _) (ih _ {w with drawn:=w.drawn+1} v w' h)
 | sys c k ih=>intro w v w' h;exact Nat.le_trans (sys_drawn w c) (ih _ (w.sys c).2 v w' h)
 | program k ih=>intro w v w' h;exact ih _ w v w' h
 | mark m k ih=>intro w v w' h;exact ih w v w' h
 | halt x=>intro w v w' h;cases h
def drW (w:World):Nat:=0
theorem dr_of {w w':World} (h:w.drawn≤w'.drawn):drW w≤drW w':=by first | exact h | exact Nat.le_refl _
structure Fr (M:Nat→Prop) (w0 w:World):Prop where
 os:w.os=w0.os
 tape:w.tape=w0.tape
 output:w.output=w0.output
 size:w0.heap.size≤w.heap.size
 block:∀b,b<w0.heap.size→¬M b→w.heap[b]? = w0.heap[b]?
 drawn:drW w0≤drW w
theorem Fr.refl (M:Nat→Prop) (w:World):Fr M w w:=⟨rfl,rfl,rfl,Nat.le_refl _,fun _ _ _=>rfl,Nat.le_refl _⟩
structure Rel (M S0:Nat→Prop) (w0:World) (S:Nat→Prop) (β:Nat→Cr) (H:Nat→Ob) (w:World):Prop where
 fr:Fr M w0 w
 s0:∀b,S0 b→S b
 sS:∀b,S b→b<w.heap.size∧(S0 b∨w0.heap.size≤b)
 own:∀k g,(H k).live=true→(β k).has g→(M g∨w0.heap.size≤g)∧g<w.heap.size∧¬S g
 dis:∀k k' g,(H k).live=true→(H k').live=true→(β k).has g→(β k').has g→k=k'
 ob:∀k,ObR S w β H (β k) (H k)
 gl:GL S w
def updH (H:Nat→Ob) (u:List (Nat×Ob)):Nat→Ob:=fun k=>(u.lookup k).getD (H k)
theorem updH_nil (H:Nat→Ob):updH H []=H:=rfl
theorem updH_one (H:Nat→Ob) (k:Nat) (o:Ob):updH H [(k,o)] k=o:=by simp[updH,List.lookup]
theorem updH_other (H:Nat→Ob) (k j:Nat) (o:Ob) (h:j≠k):updH H [(k,o)] j=H j:=by
 have:(j==k)=false:=by simpa using h
 simp[updH,List.lookup,this]
def setC (β:Nat→Cr) (k:Nat) (c:Cr):Nat→Cr:=fun j=>if j=k then c else β j
theorem setC_one (β:Nat→Cr) (k:Nat) (c:Cr):setC β k c k=c:=by simp[setC]
theorem setC_other (β:Nat→Cr) (k j:Nat) (c:Cr) (h:j≠k):setC β k c j=β j:=by simp[setC,h]
theorem Cat.dr_mono {S S':Nat→Prop} {w w':World} (h:∀b,S b→S' b∧w'.heap[b]? = w.heap[b]?) {t:Ty} {xs:List t.den} {cs:List Value} (hc:Cat (DR S w t) xs cs):Cat (DR S' w' t) xs cs:=
 Cat.mono (DR.mono h t) _ _ hc
theorem ObR.idle {S:Nat→Prop} {w:World} {β:Nat→Cr} {H:Nat→Ob} {c:Cr} {o:Ob} (h:o.live=false):ObR S w β H c o:=by
 cases o<;>first | trivial | cases h
theorem has_one {a cap b:Nat}:(Cr.mk (some a) cap []).has b↔b=a:=by
 unfold Cr.has
 simp[eq_comm]
theorem has_nil {cap b:Nat}:¬(Cr.mk none cap []).has b:=by
 unfold Cr.has
 simp
theorem ObR.ext {S S':Nat→Prop} {w w':World} {β β':Nat→Cr} {H H':Nat→Ob} (h:Ext S w β H S' w' β' H') (c:Cr) (o:Ob) (hb:∀g,c.has g→w'.heap[g]? = w.heap[g]?) (ho:ObR S w β H c o):ObR S' w' β' H' c o:=by
 cases o with
 | none=>trivial
 | dead=>trivial
 | cells e cs=>
  obtain⟨g,vs,e1,e2,e3⟩:=ho
  exact⟨g,vs,e1,(hb g (.inl e1)).trans e2,VLs.ext h _ _ e3⟩
 | row e t xs=>
  rcases ho with ⟨e1,e2⟩ | ⟨g,cur,e1,e2,e3,e4,e5,e6⟩
  · exact .inl ⟨e1,e2⟩
  · exact .inr ⟨g,cur,e1,(hb g (.inl e1)).trans e2,e3,e4,e5,Cat.dr_mono h.hS e6⟩
 | prow e xs=>
  rcases ho with ⟨e1,e2⟩ | ⟨g,cur,e1,e2,e3,e4,e5,e6⟩
  · exact .inl ⟨e1,e2⟩
  · exact .inr ⟨g,cur,e1,(hb g (.inl e1)).trans e2,e3,e4,e5,VLs.ext h _ _ e6⟩
 | map ag t es=>
  obtain⟨g,l,e1,e2,e3,e4⟩:=ho
  exact⟨g,l,e1,(hb g (.inl e1)).trans e2,e3,fun i p hp=>by obtain⟨cs,q1,q2⟩:=e4 i p hp;exact⟨cs,DR.mono h.hS _ _ _ q1,q2⟩⟩
 | mit m n seen cur=>
  obtain⟨g,gm,st,e1,e2,e3,e4⟩:=ho
  refine⟨g,gm,st,e1,(hb g (.inl e1)).trans e2,e3,?_⟩
  have hm:=h.hO m
  cases hq:H m with
  | map ag t es=>
   rw[hq] at e4 hm
   rcases hm with e5 | ⟨e5,es',e6⟩
   · rw[e5];trivial
   · rw[e6];exact e5.trans e4
  | dead=>rw[hq] at hm;rw[show H' m=.dead from hm];trivial
  | _=>rw[hq] at e4;exact e4.elim
 | orow e t xs=>
  rcases ho with ⟨e1,e2,e3⟩ | ⟨g,cur,e1,e2,e3,e4,e5,e6,e7⟩
  · exact .inl ⟨e1,e2,e3⟩
  · exact .inr ⟨g,cur,e1,(hb g (.inl e1)).trans e2,e3,e4,e5,CatO.mono h.hS _ _ _ (fun b hm=>hb b (.inr hm)) e6,e7⟩
 | hrow e t xs i off=>
  obtain⟨g,cur,e1,e2,e3,e4,e5,e6,e7,e8,e9,e10⟩:=ho
  exact⟨g,cur,e1,(hb g (.inl e1)).trans e2,e3,e4,e5,e6,e7,e8,CatO.mono h.hS _ _ _ (fun b hm=>hb b (.inr hm)) e9,e10⟩
theorem heap_alloc_at (w:World) (o:Obj):(w.alloc o).heap[w.heap.size]? = some o:=by
 show (w.heap.push o)[w.heap.size]? = _
 simp
theorem heap_alloc_lt (w:World) (o:Obj) (b:Nat) (h:b<w.heap.size):(w.alloc o).heap[b]? = w.heap[b]? := by
 show (w.heap.push o)[b]? = _
 rw[Array.getElem?_push,if_neg (by omega)]
theorem size_alloc (w:World) (o:Obj):(w.alloc o).heap.size=w.heap.size+1:=by
 show (w.heap.push o).size=_
 simp
section
variable {M S0:Nat→Prop} {w0:World} {S:Nat→Prop} {β:Nat→Cr} {H:Nat→Ob} {w:World}
theorem Rel.grow (h:Rel M S0 w0 S β H w) {w':World} (ho:w'.os=w.os) (ht:w'.tape=w.tape) (hu:w'.output=w.output) (hz:w.heap.size≤w'.heap.size) (hb:∀b,b<w.heap.size→w'.heap[b]? = w.heap[b]?) (hd:drW w≤drW w':=by first | exact Nat.le_refl _ | exact Nat.le_succ _ | assumption) :
 Rel M S0 w0 S β H w'∧Ext S w β H S w' β H:=by
 have hx:Ext S w β H S w' β H:=⟨fun b hs=>⟨hs,hb b (h.sS b hs).1⟩,fun k=>ObExt.refl _ _⟩
 refine⟨⟨⟨ho.trans h.fr.os,ht.trans h.fr.tape,hu.trans h.fr.output,Nat.le_trans h.fr.size hz,fun b hlt hm=>(hb b (Nat.lt_of_lt_of_le hlt h.fr.size)).trans (h.fr.block b hlt hm),Nat.le_trans h.fr.drawn hd⟩,h.s0,fun b hs=>⟨Nat.lt_of_lt_of_le (h.sS b hs).1 hz,(h.sS b hs).2⟩,fun k g hl hg=>⟨(h.own k g hl hg).1,Nat.lt_of_lt_of_le (h.own k g hl hg).2.1 hz,(h.own k g hl hg).2.2⟩,h.dis,fun k => ?_,h.gl.mono hx.hS⟩,hx⟩
 by_cases hl:(H k).live=true
 · exact ObR.ext hx _ _ (fun g hg=>hb g (h.own k g hl hg).2.1) (h.ob k)
 · exact ObR.idle (by simpa using hl)
theorem Rel.newX (h:Rel M S0 w0 S β H w) (nid:Nat) (hn:H nid=.none) (cs:Array Value) (e:TypeId) (cap:Nat) (o:Ob)
 (hob:∀β' H' w',Ext S w β H S w' β' H'→β' nid=⟨some w.heap.size,cap,[]⟩→H' nid=o→w'.heap[w.heap.size]? = some (.cells cs e (0,0))→ObR S w' β' H' ⟨some w.heap.size,cap,[]⟩ o) :
 Rel M S0 w0 S (setC β nid ⟨some w.heap.size,cap,[]⟩) (updH H [(nid,o)]) (w.alloc (.cells cs e))∧Ext S w β H S (w.alloc (.cells cs e)) (setC β nid ⟨some w.heap.size,cap,[]⟩) (updH H [(nid,o)]):=by
 have hx:Ext S w β H S (w.alloc (.cells cs e)) (setC β nid ⟨some w.heap.size,cap,[]⟩) (updH H [(nid,o)]):=by
  refine⟨fun b hs=>⟨hs,heap_alloc_lt w _ b (h.sS b hs).1⟩,fun k => ?_⟩
  by_cases hk:k=nid
  · subst hk;rw[hn];trivial
  · rw[setC_other _ _ _ _ hk,updH_other _ _ _ _ hk];exact ObExt.refl _ _
 have hsz:=size_alloc w (.cells cs e)
 refine⟨⟨⟨h.fr.os,h.fr.tape,h.fr.output,by have:=h.fr.size;omega,fun b hlt hm=>(heap_alloc_lt w _ b (Nat.lt_of_lt_of_le hlt h.fr.size)).trans (h.fr.block b hlt hm),h.fr.drawn⟩,h.s0,fun b hs=>⟨by have:=(h.sS b hs).1;omega,(h.sS b hs).2⟩,?_,?_,?_,h.gl.mono hx.hS⟩,hx⟩
 · intro k g hl hg
   by_cases hk:k=nid
   · subst hk
     rw[setC_one,has_one] at hg
     subst hg
     exact⟨.inr h.fr.size,by omega,fun hs=>by have:=(h.sS _ hs).1;omega⟩
   · rw[setC_other _ _ _ _ hk] at hg
     rw[updH_other _ _ _ _ hk] at hl
     have:=h.own k g hl hg
     exact⟨this.1,by omega,this.2.2⟩
 · intro k k' g hl hl' hg hg'
   by_cases hk:k=nid
   · by_cases hk':k'=nid
     · rw[hk,hk']
     · subst hk
       rw[setC_one,has_one] at hg
       subst hg
       rw[setC_other _ _ _ _ hk'] at hg'
       rw[updH_other _ _ _ _ hk'] at hl'
       have:=(h.own k' _ hl' hg').2.1
       omega
   · by_cases hk':k'=nid
     · subst hk'
       rw[setC_one,has_one] at hg'
       subst hg'
       rw[setC_other _ _ _ _ hk] at hg
       rw[updH_other _ _ _ _ hk] at hl
       have:=(h.own k _ hl hg).2.1
       omega
     · rw[setC_other _ _ _ _ hk] at hg
       rw[updH_other _ _ _ _ hk] at hl
       rw[setC_other _ _ _ _ hk'] at hg'
       rw[updH_other _ _ _ _ hk'] at hl'
       exact h.dis k k' g hl hl' hg hg'
 · intro k
   by_cases hk:k=nid
   · subst hk
     rw[setC_one,updH_one]
     exact hob _ _ _ hx (setC_one ..) (updH_one ..) (heap_alloc_at w _)
   · rw[setC_other _ _ _ _ hk,updH_other _ _ _ _ hk]
     by_cases hl:(H k).live=true
     · exact ObR.ext hx _ _ (fun g hg=>heap_alloc_lt w _ g (h.own k g hl hg).2.1) (h.ob k)
     · exact ObR.idle (by simpa using hl)
theorem Rel.new (h:Rel M S0 w0 S β H w) (nid:Nat) (hn:H nid=.none) (cs:Array Value) (e:TypeId) (cap:Nat) (o:Ob)
 (hob:∀β' H' w',Ext S w β H S w' β' H'→w'.heap[w.heap.size]? = some (.cells cs e (0,0))→ObR S w' β' H' ⟨some w.heap.size,cap,[]⟩ o) :
 Rel M S0 w0 S (setC β nid ⟨some w.heap.size,cap,[]⟩) (updH H [(nid,o)]) (w.alloc (.cells cs e))∧Ext S w β H S (w.alloc (.cells cs e)) (setC β nid ⟨some w.heap.size,cap,[]⟩) (updH H [(nid,o)]):=
 h.newX nid hn cs e cap o fun β' H' w' hx _ _ hh=>hob β' H' w' hx hh
theorem Rel.write (h:Rel M S0 w0 S β H w) (k g:Nat) (hl:(H k).live=true) (hg:(β k).g=some g) (o:Ob) (hoe:ObExt (β k) (H k) (β k) o) {w':World}
 (e1:w'.os=w.os) (e2:w'.tape=w.tape) (e3:w'.output=w.output) (hz:w'.heap.size=w.heap.size) (hb:∀b,b≠g→w'.heap[b]? = w.heap[b]?)
 (hob:Ext S w β H S w' β (updH H [(k,o)])→ObR S w' β (updH H [(k,o)]) (β k) o)
 (hd:drW w≤drW w':=by first | exact Nat.le_refl _ | exact Nat.le_succ _ | assumption) :
 Rel M S0 w0 S β (updH H [(k,o)]) w'∧Ext S w β H S w' β (updH H [(k,o)]):=by
 have hng:¬S g:=(h.own k g hl (.inl hg)).2.2
 have hx:Ext S w β H S w' β (updH H [(k,o)]):=by
  refine⟨fun b hs=>⟨hs,hb b (fun e=>hng (e▸hs))⟩,fun j => ?_⟩
  by_cases hj:j=k
  · subst hj;rw[updH_one];exact hoe
  · rw[updH_other _ _ _ _ hj];exact ObExt.refl _ _
 have hlive:∀j,(updH H [(k,o)] j).live=true→(H j).live=true:=by
  intro j hj
  by_cases he:j=k
  · rw[he];exact hl
  · rw[updH_other _ _ _ _ he] at hj;exact hj
 refine⟨⟨⟨e1.trans h.fr.os,e2.trans h.fr.tape,e3.trans h.fr.output,by rw[hz];exact h.fr.size,fun b hlt hm => ?_,Nat.le_trans h.fr.drawn hd⟩,h.s0,fun b hs=>by rw[hz];exact h.sS b hs,fun j g' hj hg'=>by rw[hz];exact h.own j g' (hlive j hj) hg',fun j j' g' hj hj'=>h.dis j j' g' (hlive j hj) (hlive j' hj'),fun j => ?_,h.gl.mono hx.hS⟩,hx⟩
 · have hne:b≠g:=by
    intro e
    subst e
    rcases (h.own k b hl (.inl hg)).1 with hm' | hm'
    · exact hm hm'
    · omega
   exact (hb b hne).trans (h.fr.block b hlt hm)
 · by_cases hj:j=k
   · subst hj;rw[updH_one];exact hob hx
   · rw[updH_other _ _ _ _ hj]
     by_cases hl':(H j).live=true
     · refine ObR.ext hx _ _ (fun g' hg'=>hb g' (fun e => ?_)) (h.ob j)
       subst e
       exact hj (h.dis j k g' hl' hl hg' (.inl hg))
     · exact ObR.idle (by simpa using hl')
theorem Rel.move (h:Rel M S0 w0 S β H w) (k nid:Nat) (hk:(H k).live=true) (hn:H nid=.none) (c:Cr) (o:Ob) (hcm:c.more=[]) {w':World}
 (hgr:w.grownBy w' (β k).g) (hc:∀g,c.g=some g→(some g=(β k).g∨w.heap.size≤g)∧g<w'.heap.size)
 (hob:∀β' H',Ext S w β H S w' β' H'→ObR S w' β' H' c o)
 (hd:drW w≤drW w':=by first | exact Nat.le_refl _ | exact Nat.le_succ _ | assumption) :
 Rel M S0 w0 S (setC β nid c) (updH H [(k,.dead),(nid,o)]) w'∧Ext S w β H S w' (setC β nid c) (updH H [(k,.dead),(nid,o)]):=by
 have hkn:k≠nid:=by intro e;rw[e,hn] at hk;cases hk
 have u1:updH H [(k,.dead),(nid,o)] k=.dead:=by simp[updH,List.lookup]
 have u2:updH H [(k,.dead),(nid,o)] nid=o:=by
  have:(nid==k)=false:=by simpa using fun e:nid=k=>hkn e.symm
  simp[updH,List.lookup,this]
 have u3:∀j,j≠k→j≠nid→updH H [(k,.dead),(nid,o)] j=H j:=by
  intro j h1 h2
  have e1:(j==k)=false:=by simpa using h1
  have e2:(j==nid)=false:=by simpa using h2
  simp[updH,List.lookup,e1,e2]
 have hx:Ext S w β H S w' (setC β nid c) (updH H [(k,.dead),(nid,o)]):=by
  refine⟨fun b hs=>⟨hs,hgr.block b (h.sS b hs).1 (fun e=>(h.own k b hk (.inl e.symm)).2.2 hs)⟩,fun j => ?_⟩
  by_cases h1:j=k
  · subst h1
    rw[u1]
    cases ho:H j with
    | none=>trivial
    | dead=>rfl
    | cells e cs=>exact .inl rfl
    | row e t xs=>exact .inl rfl
    | prow e xs=>exact .inl rfl
    | map ag t es=>exact .inl rfl
    | mit m n seen cur=>exact .inl rfl
    | orow e t xs=>exact .inl rfl
    | hrow e t xs i off=>exact .inl rfl
  · by_cases h2:j=nid
    · subst h2;rw[hn];trivial
    · rw[u3 j h1 h2,setC_other _ _ _ _ h2];exact ObExt.refl _ _
 have old:∀j,(updH H [(k,.dead),(nid,o)] j).live=true→j≠nid→j≠k∧(H j).live=true∧setC β nid c j=β j:=by
  intro j hl hj
  have hjk:j≠k:=by intro e;rw[e,u1] at hl;cases hl
  rw[u3 j hjk hj] at hl
  exact⟨hjk,hl,setC_other _ _ _ _ hj⟩
 have hcg:∀g,c.has g→c.g=some g:=by
  intro g hg
  rcases hg with hg | hg
  · exact hg
  · rw[hcm] at hg;cases hg
 have far:∀j g,j≠k→(H j).live=true→(β j).has g→¬c.has g:=by
  intro j g hjk hl hg e
  rcases (hc g (hcg g e)).1 with h1 | h1
  · exact hjk (h.dis j k g hl hk hg (.inl h1.symm))
  · have:=(h.own j g hl hg).2.1;omega
 refine⟨⟨⟨hgr.os.trans h.fr.os,hgr.tape.trans h.fr.tape,hgr.output.trans h.fr.output,Nat.le_trans h.fr.size hgr.size,fun b hlt hm => ?_,Nat.le_trans h.fr.drawn hd⟩,h.s0,fun b hs=>⟨Nat.lt_of_lt_of_le (h.sS b hs).1 hgr.size,(h.sS b hs).2⟩,?_,?_,?_,h.gl.mono hx.hS⟩,hx⟩
 · have hne:some b≠(β k).g:=by
    intro e
    rcases (h.own k b hk (.inl e.symm)).1 with hm' | hm'
    · exact hm hm'
    · omega
   exact (hgr.block b (Nat.lt_of_lt_of_le hlt h.fr.size) hne).trans (h.fr.block b hlt hm)
 · intro j g hl hg
   by_cases hj:j=nid
   · subst hj
     rw[setC_one] at hg
     obtain⟨h1,h2⟩:=hc g (hcg g hg)
     rcases h1 with h1 | h1
     · have:=h.own k g hk (.inl h1.symm)
       exact⟨this.1,h2,this.2.2⟩
     · exact⟨.inr (Nat.le_trans h.fr.size h1),h2,fun hs=>by have:=(h.sS g hs).1;omega⟩
   · obtain⟨hjk,hl',e⟩:=old j hl hj
     rw[e] at hg
     have:=h.own j g hl' hg
     exact⟨this.1,Nat.lt_of_lt_of_le this.2.1 hgr.size,this.2.2⟩
 · intro j j' g hl hl' hg hg'
   by_cases hj:j=nid
   · by_cases hj':j'=nid
     · rw[hj,hj']
     · obtain⟨hjk,hl2,e⟩:=old j' hl' hj'
       rw[e] at hg'
       rw[hj,setC_one] at hg
       exact absurd hg (far j' g hjk hl2 hg')
   · obtain⟨hjk,hl1,e⟩:=old j hl hj
     rw[e] at hg
     by_cases hj':j'=nid
     · rw[hj',setC_one] at hg'
       exact absurd hg' (far j g hjk hl1 hg)
     · obtain⟨hjk',hl2,e'⟩:=old j' hl' hj'
       rw[e'] at hg'
       exact h.dis j j' g hl1 hl2 hg hg'
 · intro j
   by_cases hj:j=nid
   · subst hj;rw[setC_one,u2];exact hob _ _ hx
   · by_cases hjk:j=k
     · subst hjk;rw[u1];trivial
     · rw[u3 j hjk hj,setC_other _ _ _ _ hj]
       by_cases hl':(H j).live=true
       · exact ObR.ext hx _ _ (fun g hg=>hgr.block g (h.own j g hl' hg).2.1 (fun e=>hjk (h.dis j k g hl' hk hg (.inl e.symm)))) (h.ob j)
       · exact ObR.idle (by simpa using hl')
theorem Rel.step (h:Rel M S0 w0 S β H w) {β':Nat→Cr} {H':Nat→Ob} {w':World} (W:Nat→Prop)
 (e1:w'.os=w.os) (e2:w'.tape=w.tape) (e3:w'.output=w.output) (hz:w.heap.size≤w'.heap.size)
 (hW:∀b,W b→∃k,(H k).live=true∧(β k).has b) (hb:∀b,b<w.heap.size→¬W b→w'.heap[b]? = w.heap[b]?)
 (hO:∀k,ObExt (β k) (H k) (β' k) (H' k))
 (hown:∀k b,(H' k).live=true→(β' k).has b→(∃j,(H j).live=true∧(β j).has b)∨(w.heap.size≤b∧b<w'.heap.size))
 (hdis:∀k k' b,(H' k).live=true→(H' k').live=true→(β' k).has b→(β' k').has b→k=k')
 (hob:Ext S w β H S w' β' H'→∀k,(H' k).live=true→(H' k=H k∧β' k=β k∧∀b,(β k).has b→¬W b)∨ObR S w' β' H' (β' k) (H' k))
 (hd:drW w≤drW w':=by first | exact Nat.le_refl _ | exact Nat.le_succ _ | assumption) :
 Rel M S0 w0 S β' H' w'∧Ext S w β H S w' β' H':=by
 have hx:Ext S w β H S w' β' H':=⟨fun b hs=>⟨hs,hb b (h.sS b hs).1 fun hw=>by obtain⟨k,hl,hg⟩:=hW b hw;exact (h.own k b hl hg).2.2 hs⟩,hO⟩
 refine⟨⟨⟨e1.trans h.fr.os,e2.trans h.fr.tape,e3.trans h.fr.output,Nat.le_trans h.fr.size hz,fun b hlt hm => ?_,Nat.le_trans h.fr.drawn hd⟩,h.s0,fun b hs=>⟨Nat.lt_of_lt_of_le (h.sS b hs).1 hz,(h.sS b hs).2⟩,fun k b hl hg => ?_,hdis,fun k => ?_,h.gl.mono hx.hS⟩,hx⟩
 · refine (hb b (Nat.lt_of_lt_of_le hlt h.fr.size) fun hw => ?_).trans (h.fr.block b hlt hm)
   obtain⟨k,hl,hg⟩:=hW b hw
   rcases (h.own k b hl hg).1 with hm' | hm'
   · exact hm hm'
   · omega
 · rcases hown k b hl hg with ⟨j,hl',hg'⟩ | ⟨q1,q2⟩
   · have:=h.own j b hl' hg'
     exact⟨this.1,Nat.lt_of_lt_of_le this.2.1 hz,this.2.2⟩
   · exact⟨.inr (Nat.le_trans h.fr.size q1),q2,fun hs=>by have:=(h.sS b hs).1;omega⟩
 · by_cases hl:(H' k).live=true
   · rcases hob hx k hl with ⟨q1,q2,q3⟩ | q
     · rw[q1,q2]
       rw[q1] at hl
       exact ObR.ext hx _ _ (fun b hg=>hb b (h.own k b hl hg).2.1 (q3 b hg)) (h.ob k)
     · exact q
   · exact ObR.idle (by simpa using hl)
end
end Go.Proofs.YtkpjcmiijlpcaaaDoor.Aw
