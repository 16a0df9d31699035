/- An abstract program logic over the model, fifteenth part: calls. -/
import Derived.Test.YtkpjcmiijlpcaaaDoorAwN
namespace Go.Proofs.YtkpjcmiijlpcaaaDoor.Aw
open Go
abbrev cr0:Nat→Cr:=fun _=>⟨none,0,[]⟩
abbrev ob0:Nat→Ob:=fun _=>.none
abbrev newsH (news:List Ob):Nat→Ob:=fun k=>news.getD k .none
structure ACalls (P:Program) (g:FuncId) (args:List AV) (v:AV) (news:List Ob):Prop where
 known:∃fn,P.funcs[g]? = some fn∧(fn.name == "runtime.NumGoroutine")=false∧fn.body.isNone=false
 run:∀(S:Nat→Prop) (w:World) (vs:List Value),(∀b,S b→b<w.heap.size)→GL S w→VLs S w cr0 ob0 args vs →
  Calls P g vs.toArray w fun e w'=>∃u,e=.returned u∧∃S' β',Rel (fun _=>False) S w S' β' (newsH news) w'∧VL S' w' β' (newsH news) v [u]
def Mof (β:Nat→Cr) (obs:List Ob) (b:Nat):Prop:=∃i,(newsH obs i).live=true∧(β i).has b
def endOf (pn:Option Value) (u:Value):Ending:=match pn with
 | none=>.returned u
 | some x=>.panicked [{v:=x,recovered:=false}]
structure ACalls2 (P:Program) (g:FuncId) (args:List AV) (obs:List Ob) (v:AV) (obs':List Ob) (pn:Option Value:=none):Prop where
 known:∃fn,P.funcs[g]? = some fn∧(fn.name == "runtime.NumGoroutine")=false∧fn.body.isNone=false
 run:∀(S:Nat→Prop) (β:Nat→Cr) (w:World) (vs:List Value),Rel (Mof β obs) S w S β (newsH obs) w→VLs S w β (newsH obs) args vs →
  Calls P g vs.toArray w fun e w'=>∃u,e=endOf pn u∧∃S' β',Rel (Mof β obs) S w S' β' (newsH obs') w'∧VL S' w' β' (newsH obs') v [u]∧∀i,i<obs.length→ObExt (β i) (newsH obs i) (β' i) (newsH obs' i)
abbrev Guest:=Nat→Bool→(Nat→Prop)→(Nat→Prop)→World→Prop
def Guest.stays (J:Guest):Prop:=∀i b X W w w',J i b X W w→w'.os=w.os→w'.tape=w.tape→w'.output=w.output→w.heap.size≤w'.heap.size→(∀g,X g→w'.heap[g]? = w.heap[g]?)→J i b X W w'
abbrev Wd (ρ:Option Nat):Fence:={Fence.wide with round:=ρ}
def Guest.rounds (P:Program) (J:Guest) (l cnt:Nat) (arg:Nat→List AV) (S1:Nat→Prop) (n1:Nat):Prop:=
 ∀i (X W S:Nat→Prop) (w:World) (us:List Value),i<cnt→J i false X W w→n1≤w.heap.size→VLs S w cr0 ob0 (arg i) us→(∀b,S b→b<w.heap.size∧¬W b∧(S1 b∨n1≤b)) →
  ∃f tmps assign body,(Instr.yield l us.toArray).run P w=.ok (.round l f tmps assign body) w ∧
   RoundIn (Wd none) 0 P l f tmps assign body w fun e w'=>∃b X' W',e=.returned (.bool b)∧J (i+1) (!b) X' W' w'∧Fr W w w'∧(∀g,W' g→X' g∧(W g∨w.heap.size≤g))∧∀g,X' g→(X g∨S g∨w.heap.size≤g)∧g<w'.heap.size
structure AIter (P:Program) (g:FuncId) (args:List AV) (caps:List AV) (obs:List Ob) (cnt:Nat) (arg:Nat→List AV):Prop where
 known:∃fn,P.funcs[g]? = some fn∧(fn.name == "runtime.NumGoroutine")=false∧fn.body.isNone=false
 run:∀(S:Nat→Prop) (β:Nat→Cr) (w:World) (vs cs:List Value) (l:Nat) (J:Guest) (X W:Nat→Prop),Rel (Mof β obs) S w S β (newsH obs) w→VLs S w β (newsH obs) args vs→VLs S w β (newsH obs) caps cs →
  J.stays→J.rounds P l cnt arg S w.heap.size→J 0 false X W w→(∀b,X b→b<w.heap.size∧¬Mof β obs b)→(∀b,W b→X b∧¬S b) →
  Calls P g (vs++[Value.func (.yield l) #[] #[]]++cs).toArray w fun e w'=>∃u i st X' W',e=.returned u∧J i st X' W' w'∧(st=true∨i=cnt)∧Fr (fun b=>W b∨Mof β obs b) w w'
structure EnvOk (P:Program) (env:Env):Prop where
 one:∀g args t,env.one g args=some t→(∀p∈t.pre,p)→ACalls P g args t.v t.news
 two:∀g args obs t,env.two g args obs=some t→(∀p∈t.pre,p)→ACalls2 P g args obs t.v (finObs obs t.olds t.news)
 pan:∀g f args obs t,env.pan g=some f→f args obs=some t→(∀p∈t.pre,p)→(t.b=false→ACalls2 P g args obs t.v (finObs obs t.olds t.news))∧(t.b=true→ACalls2 P g args obs .undef (finObs obs t.olds t.news) (some t.x))
 iter:∀g args caps obs t,env.iter g args caps obs=some t→(∀p∈t.pre,p)→AIter P g args caps obs t.cnt t.arg
section
variable {P:Program} {T:Tab} {env:Env} {M S0:Nat→Prop} {w0:World} {S S1:Nat→Prop} {β:Nat→Cr} {H:Nat→Ob} {w:World} {o:Oper} {a:Act} {ev:Operand→AV} {nid:Nat} {r:Res}
theorem Ext.wide (h:∀b,S b→S1 b):Ext S w β H S1 w β H:=⟨fun b hb=>⟨h b hb,rfl⟩,fun _=>ObExt.refl _ _⟩
theorem row_list (hr:Rel M S0 w0 S β H w) (h:∀b,S b→S1 b) {k:Nat} {e:TypeId} {t:Ty} {xs:List t.den} {v:Value} (hk:H k=.row e t xs) (hg:∀g,(β k).g=some g→S1 g) (hv:leaf S w β H (.row k) v):DR S1 w (.list e t) xs [v]:=by
 simp only[leaf,hk] at hv
 have hob:=hr.ob k
 rw[hk] at hob
 rcases hob with ⟨e2,e3⟩ | ⟨g,cur,e2,e3,e4,e5,e6,e7⟩
 · subst e3
   refine⟨none,0,0,[],?_,rfl,Nat.le_refl _,rfl,fun j u hj=>by simp at hj,fun _=>rfl⟩
   rw[hv];unfold rowV;rw[e2]
 · refine⟨some ⟨g,0,none⟩,xs.length,(β k).cap,_,by rw[hv,rowV_some e2],rfl,e4,Cat.dr_mono (fun b hb=>⟨h b hb,rfl⟩) e7,fun j u hj=>⟨_,rfl,?_,?_⟩,fun h=>by cases h⟩
   · exact hg g e2
   · rw[add_lit,cell_of_row w g _ _ _ _ e3]
     rw[List.getElem?_take] at hj
     split at hj
     · simpa using hj
     · cases hj
theorem view_list (hr:Rel M S0 w0 S β H w) (h:∀b,S b→S1 b) {k lo n:Nat} {e:TypeId} {t:Ty} {xs:List t.den} {v:Value} (hk:viewOf H k lo n e t=some xs) (hg:∀g,(H k).live=true→(β k).g=some g→S1 g) (hv:leaf S w β H (.view k lo n e t) v):DR S1 w (.list e t) xs [v]:=by
 obtain⟨hl,ao,c,news,q1,q2,q3,q4,q5,q6⟩:=view_of hr hv hk
 refine⟨ao,n,c,news,by rw[q1],q2,q3,Cat.dr_mono (fun b hb=>⟨h b hb,rfl⟩) q4,fun j u hj => ?_,q6.1⟩
 obtain⟨ad,r1,r2,r3⟩:=q5 j u hj
 exact⟨ad,r1,hg _ hl r2,r3⟩
theorem nils_list {e:TypeId} {t:Ty} {v:Value} (h:leaf S w β H (.nils e t) v):DR S1 w (.list e t) [] [v]:=
 ⟨none,0,0,[],by rw[show v=_ from h],rfl,Nat.le_refl _,rfl,fun j u hj=>by simp at hj,fun _=>rfl⟩
theorem emp_list {e:TypeId} {t:Ty} {v:Value} (h:leaf S w β H (.emp e t) v):DR S1 w (.list e t) [] [v]:=by
 obtain⟨ad,c,rfl⟩:=h
 exact⟨some ad,0,c,[],rfl,rfl,Nat.zero_le _,rfl,fun j u hj=>by simp at hj,fun h=>by cases h⟩
theorem lend_of (hr:Rel M S0 w0 S β H w) (h:∀b,S b→S1 b):∀(a:AV) (vs:List Value),(∀k∈a.rowRefs,∀g,(H k).live=true→(β k).g=some g→S1 g)→VL S w β H a vs→VL S1 w cr0 ob0 (a.lend H) vs
 | .row k,vs,hl,⟨v,e,hv⟩=>by
  simp only[AV.lend]
  split
  · rename_i e' t xs hk
    exact⟨v,e,row_list hr h hk (fun g hg=>hl k (by simp[AV.rowRefs]) g (by rw[hk];rfl) hg) hv⟩
  · exact⟨v,e,trivial⟩
 | .view k lo n e' t,vs,hl,⟨v,e,hv⟩=>by
  simp only[AV.lend]
  split
  · rename_i xs hk
    exact⟨v,e,view_list hr h hk (fun g h1 h2=>hl k (by simp[AV.rowRefs]) g h1 h2) hv⟩
  · exact⟨v,e,trivial⟩
 | .nils e t,_,hl,⟨v,e1,hv⟩=>⟨v,e1,nils_list hv⟩
 | .emp e t,_,hl,⟨v,e1,hv⟩=>⟨v,e1,emp_list hv⟩
 | .ptr k off,_,hl,⟨v,e,hv⟩=>⟨v,e,trivial⟩
 | .rptr k i off,vs,hl,⟨v,e,hv⟩=>⟨v,e,trivial⟩
 | .prow k,vs,hl,⟨v,e,hv⟩=>⟨v,e,trivial⟩
 | .pptr k i,vs,hl,⟨v,e,hv⟩=>⟨v,e,trivial⟩
 | .mp k,vs,hl,⟨v,e,hv⟩=>⟨v,e,trivial⟩
 | .nptr k,vs,hl,⟨v,e,hv⟩=>⟨v,e,trivial⟩
 | .itr k,vs,hl,⟨v,e,hv⟩=>⟨v,e,trivial⟩
 | .agg c,vs,hl,⟨cs,e,hc⟩=>⟨cs,e,lend_of hr h c cs hl hc⟩
 | .tuple c,vs,hl,⟨cs,e,hc⟩=>⟨cs,e,lend_of hr h c cs hl hc⟩
 | .fn f x y,vs,hl,⟨p,q,e,h1,h2⟩=>⟨p,q,e,lend_of hr h x p (fun k hk=>hl k (by simp only[AV.rowRefs,List.mem_append];exact .inl hk)) h1,lend_of hr h y q (fun k hk=>hl k (by simp only[AV.rowRefs,List.mem_append];exact .inr hk)) h2⟩
 | .iface t x,vs,hl,⟨v,e,h1⟩=>⟨v,e,lend_of hr h x [v] hl h1⟩
 | .cons x y,vs,hl,⟨v,r,e,h1,h2⟩=>⟨v,r,e,lend_of hr h x [v] (fun k hk=>hl k (by simp only[AV.rowRefs,List.mem_append];exact .inl hk)) h1,lend_of hr h y r (fun k hk=>hl k (by simp only[AV.rowRefs,List.mem_append];exact .inr hk)) h2⟩
 | .list e t xs,vs,hl,⟨v,e1,hv⟩=>⟨v,e1,DR.mono (fun b hb=>⟨h b hb,rfl⟩) (.list e t) xs [v] hv⟩
 | .tl e t xs,vs,hl,⟨v,e1,hv,hz⟩=>⟨v,e1,DR.mono (fun b hb=>⟨h b hb,rfl⟩) (.list e t) xs [v] hv⟩
 | .lptr e t xs i off,vs,hl,⟨v,e1,h0,hi,ad,es,hc,hrd,hv⟩=>⟨v,e1,h0,hi,ad,es,Cat.dr_mono (fun b hb=>⟨h b hb,rfl⟩) hc,hrd.mono (fun b hb=>⟨h b hb,rfl⟩),hv⟩
 | .undef,vs,hl,⟨v,e,hv⟩=>⟨v,e,trivial⟩
 | .int k n,vs,hl,⟨v,e,hv⟩=>⟨v,e,hv⟩
 | .bool b,vs,hl,⟨v,e,hv⟩=>⟨v,e,hv⟩
 | .str b,vs,hl,⟨v,e,hv⟩=>⟨v,e,hv⟩
 | .nilp,vs,hl,⟨v,e,hv⟩=>⟨v,e,hv⟩
 | .nilf,vs,hl,⟨v,e,hv⟩=>⟨v,e,hv⟩
 | .nili,vs,hl,⟨v,e,hv⟩=>⟨v,e,hv⟩
 | .nil0,vs,hl,⟨v,e,hv⟩=>⟨v,e,hv⟩
 | .nl,vs,hl,hv=>hv
theorem lendR_of (hr:Rel M S0 w0 S β H w) (h:∀b,S b→S1 b):∀(a:AV) (vs:List Value),(∀k∈a.rowRefs,∀g,(H k).live=true→(β k).g=some g→S1 g)→VL S w β H a vs→VL S1 w β H (a.lendR H) vs
 | .row k,vs,hl,⟨v,e,hv⟩=>by
  simp only[AV.lendR]
  split
  · rename_i e' t xs hk
    exact⟨v,e,row_list hr h hk (fun g hg=>hl k (by simp[AV.rowRefs]) g (by rw[hk];rfl) hg) hv⟩
  · exact⟨v,e,trivial⟩
 | .view k lo n e' t,vs,hl,⟨v,e,hv⟩=>by
  simp only[AV.lendR]
  split
  · rename_i xs hk
    exact⟨v,e,view_list hr h hk (fun g h1 h2=>hl k (by simp[AV.rowRefs]) g h1 h2) hv⟩
  · exact⟨v,e,trivial⟩
 | .nils e t,_,hl,⟨v,e1,hv⟩=>⟨v,e1,nils_list hv⟩
 | .emp e t,_,hl,⟨v,e1,hv⟩=>⟨v,e1,emp_list hv⟩
 | .ptr k off,_,hl,⟨v,e,hv⟩=>⟨v,e,hv⟩
 | .rptr k i off,vs,hl,⟨v,e,hv⟩=>⟨v,e,hv⟩
 | .prow k,vs,hl,⟨v,e,hv⟩=>⟨v,e,hv⟩
 | .pptr k i,vs,hl,⟨v,e,hv⟩=>⟨v,e,hv⟩
 | .mp k,vs,hl,⟨v,e,hv⟩=>⟨v,e,hv⟩
 | .nptr k,vs,hl,⟨v,e,hv⟩=>⟨v,e,hv⟩
 | .itr k,vs,hl,⟨v,e,hv⟩=>⟨v,e,hv⟩
 | .agg c,vs,hl,⟨cs,e,hc⟩=>⟨cs,e,lendR_of hr h c cs hl hc⟩
 | .tuple c,vs,hl,⟨cs,e,hc⟩=>⟨cs,e,lendR_of hr h c cs hl hc⟩
 | .fn f x y,vs,hl,⟨p,q,e,h1,h2⟩=>⟨p,q,e,lendR_of hr h x p (fun k hk=>hl k (by simp only[AV.rowRefs,List.mem_append];exact .inl hk)) h1,lendR_of hr h y q (fun k hk=>hl k (by simp only[AV.rowRefs,List.mem_append];exact .inr hk)) h2⟩
 | .iface t x,vs,hl,⟨v,e,h1⟩=>⟨v,e,lendR_of hr h x [v] hl h1⟩
 | .cons x y,vs,hl,⟨v,r,e,h1,h2⟩=>⟨v,r,e,lendR_of hr h x [v] (fun k hk=>hl k (by simp only[AV.rowRefs,List.mem_append];exact .inl hk)) h1,lendR_of hr h y r (fun k hk=>hl k (by simp only[AV.rowRefs,List.mem_append];exact .inr hk)) h2⟩
 | .list e t xs,vs,hl,⟨v,e1,hv⟩=>⟨v,e1,DR.mono (fun b hb=>⟨h b hb,rfl⟩) (.list e t) xs [v] hv⟩
 | .tl e t xs,vs,hl,⟨v,e1,hv,hz⟩=>⟨v,e1,DR.mono (fun b hb=>⟨h b hb,rfl⟩) (.list e t) xs [v] hv⟩
 | .lptr e t xs i off,vs,hl,⟨v,e1,h0,hi,ad,es,hc,hrd,hv⟩=>⟨v,e1,h0,hi,ad,es,Cat.dr_mono (fun b hb=>⟨h b hb,rfl⟩) hc,hrd.mono (fun b hb=>⟨h b hb,rfl⟩),hv⟩
 | .undef,vs,hl,⟨v,e,hv⟩=>⟨v,e,trivial⟩
 | .int k n,vs,hl,⟨v,e,hv⟩=>⟨v,e,hv⟩
 | .bool b,vs,hl,⟨v,e,hv⟩=>⟨v,e,hv⟩
 | .str b,vs,hl,⟨v,e,hv⟩=>⟨v,e,hv⟩
 | .nilp,vs,hl,⟨v,e,hv⟩=>⟨v,e,hv⟩
 | .nilf,vs,hl,⟨v,e,hv⟩=>⟨v,e,hv⟩
 | .nili,vs,hl,⟨v,e,hv⟩=>⟨v,e,hv⟩
 | .nil0,vs,hl,⟨v,e,hv⟩=>⟨v,e,hv⟩
 | .nl,vs,hl,hv=>hv
theorem hasRow_refs:∀a:AV,∀k∈a.rowRefs,a.hasRow=true
 | .row _,_,_=>rfl
 | .view _ _ _ _ _,_,_=>rfl
 | .agg c,k,h=>hasRow_refs c k h
 | .tuple c,k,h=>hasRow_refs c k h
 | .fn f a c,k,h=>by
  simp only[AV.rowRefs,List.mem_append] at h
  simp only[AV.hasRow,Bool.or_eq_true]
  exact h.imp (hasRow_refs a k) (hasRow_refs c k)
 | .iface t v,k,h=>hasRow_refs v k h
 | .cons a b,k,h=>by
  simp only[AV.rowRefs,List.mem_append] at h
  simp only[AV.hasRow,Bool.or_eq_true]
  exact h.imp (hasRow_refs a k) (hasRow_refs b k)
theorem lends_of (hr:Rel M S0 w0 S β H w) (h:∀b,S b→S1 b):∀(l:List AV) (vs:List Value),(l.any AV.hasRow=true→∀k g,(H k).live=true→(β k).g=some g→S1 g)→VLs S w β H l vs→VLs S1 w cr0 ob0 (l.map (AV.lend H)) vs
 | [],vs,_,hv=>hv
 | x::l,vs,hl,⟨v,r,e,h1,h2⟩=>⟨v,r,e,lend_of hr h x [v] (fun k hk g q1 q2=>hl (by simp only[List.any_cons,hasRow_refs x k hk,Bool.true_or]) k g q1 q2) h1,lends_of hr h l r (fun he=>hl (by simp only[List.any_cons,he,Bool.or_true])) h2⟩
theorem lendsR_of (hr:Rel M S0 w0 S β H w) (h:∀b,S b→S1 b):∀(l:List AV) (vs:List Value),(∀k∈l.flatMap AV.rowRefs,∀g,(H k).live=true→(β k).g=some g→S1 g)→VLs S w β H l vs→VLs S1 w β H (l.map (AV.lendR H)) vs
 | [],vs,_,hv=>hv
 | x::l,vs,hl,⟨v,r,e,h1,h2⟩=>⟨v,r,e,lendR_of hr h x [v] (fun k hk=>hl k (by simp only[List.flatMap_cons,List.mem_append];exact .inl hk)) h1,lendsR_of hr h l r (fun k hk=>hl k (by simp only[List.flatMap_cons,List.mem_append];exact .inr hk)) h2⟩
section
variable {f:Nat→Nat} {β2:Nat→Cr} {H2:Nat→Ob} (hs:∀k,H k≠.none→H2 (f k)=(H k).reN f∧β2 (f k)=β k)
include hs
theorem leaf.reN:∀(x:AV) (v:Value),leaf S w β H x v→leaf S w β2 H2 (x.reN f) v:=by
 intro x v h
 cases x<;>try exact h
 case ptr k off=>
  show leaf S w β2 H2 (.ptr (f k) off) v
  simp only[leaf] at h ⊢
  cases hk:H k<;>rw[hk] at h<;>first
   | exact h.elim
   | (obtain⟨h1,h2⟩:=hs k (by rw[hk];simp);rw[hk] at h1;rw[h1,h2];exact h)
 case row k=>
  show leaf S w β2 H2 (.row (f k)) v
  simp only[leaf] at h ⊢
  cases hk:H k<;>rw[hk] at h<;>first
   | exact h.elim
   | (obtain⟨h1,h2⟩:=hs k (by rw[hk];simp);rw[hk] at h1;rw[h1,h2];exact h)
 case rptr k i off=>
  show leaf S w β2 H2 (.rptr (f k) i off) v
  simp only[leaf] at h ⊢
  cases hk:H k<;>rw[hk] at h<;>first
   | exact h.elim
   | (obtain⟨h1,h2⟩:=hs k (by rw[hk];simp);rw[hk] at h1;rw[h1,h2];exact h)
 case view k lo n e t=>
  show leaf S w β2 H2 (.view (f k) lo n e t) v
  simp only[leaf] at h ⊢
  cases hk:H k<;>rw[hk] at h<;>first
   | exact h.elim
   | (obtain⟨h1,h2⟩:=hs k (by rw[hk];simp);rw[hk] at h1;rw[h1,h2];exact h)
 case prow k=>
  show leaf S w β2 H2 (.prow (f k)) v
  simp only[leaf] at h ⊢
  cases hk:H k<;>rw[hk] at h<;>first
   | exact h.elim
   | (obtain⟨h1,h2⟩:=hs k (by rw[hk];simp);rw[hk] at h1;rw[h1,h2];simp only[Ob.reN,List.length_map];exact h)
   | (obtain⟨h1,h2⟩:=hs k (by rw[hk];simp);rw[hk] at h1;rw[h1,h2];exact h)
 case pptr k i=>
  show leaf S w β2 H2 (.pptr (f k) i) v
  simp only[leaf] at h ⊢
  cases hk:H k<;>rw[hk] at h<;>first
   | exact h.elim
   | (obtain⟨h1,h2⟩:=hs k (by rw[hk];simp);rw[hk] at h1;rw[h1,h2];simp only[Ob.reN,List.length_map];exact h)
   | (obtain⟨h1,h2⟩:=hs k (by rw[hk];simp);rw[hk] at h1;rw[h1,h2];exact h)
 case mp k=>
  show leaf S w β2 H2 (.mp (f k)) v
  simp only[leaf] at h ⊢
  cases hk:H k<;>rw[hk] at h<;>first
   | exact h.elim
   | (obtain⟨h1,h2⟩:=hs k (by rw[hk];simp);rw[hk] at h1;rw[h1,h2];simp only[Ob.reN,List.length_map];exact h)
   | (obtain⟨h1,h2⟩:=hs k (by rw[hk];simp);rw[hk] at h1;rw[h1,h2];exact h)
 case nptr k=>
  show leaf S w β2 H2 (.nptr (f k)) v
  simp only[leaf] at h ⊢
  cases hk:H k<;>rw[hk] at h<;>first
   | exact h.elim
   | (obtain⟨h1,h2⟩:=hs k (by rw[hk];simp);rw[hk] at h1;rw[h1,h2];simp only[Ob.reN,List.length_map];exact h)
   | (obtain⟨h1,h2⟩:=hs k (by rw[hk];simp);rw[hk] at h1;rw[h1,h2];exact h)
 case itr k=>
  show leaf S w β2 H2 (.itr (f k)) v
  simp only[leaf] at h ⊢
  cases hk:H k<;>rw[hk] at h<;>first
   | exact h.elim
   | (obtain⟨h1,h2⟩:=hs k (by rw[hk];simp);rw[hk] at h1;rw[h1,h2];simp only[Ob.reN,List.length_map];exact h)
   | (obtain⟨h1,h2⟩:=hs k (by rw[hk];simp);rw[hk] at h1;rw[h1,h2];exact h)
theorem VL.reN:∀(x:AV) (vs:List Value),VL S w β H x vs→VL S w β2 H2 (x.reN f) vs
 | .ptr k off,vs,⟨v,e,hv⟩=>⟨v,e,leaf.reN hs _ v hv⟩
 | .row k,vs,⟨v,e,hv⟩=>⟨v,e,leaf.reN hs _ v hv⟩
 | .rptr k i off,vs,⟨v,e,hv⟩=>⟨v,e,leaf.reN hs _ v hv⟩
 | .view k lo n t' t,vs,⟨v,e,hv⟩=>⟨v,e,leaf.reN hs _ v hv⟩
 | .prow k,vs,⟨v,e,hv⟩=>⟨v,e,leaf.reN hs _ v hv⟩
 | .pptr k i,vs,⟨v,e,hv⟩=>⟨v,e,leaf.reN hs _ v hv⟩
 | .mp k,vs,⟨v,e,hv⟩=>⟨v,e,leaf.reN hs _ v hv⟩
 | .nptr k,vs,⟨v,e,hv⟩=>⟨v,e,leaf.reN hs _ v hv⟩
 | .itr k,vs,⟨v,e,hv⟩=>⟨v,e,leaf.reN hs _ v hv⟩
 | .agg c,vs,⟨cs,e,hc⟩=>⟨cs,e,VL.reN c cs hc⟩
 | .tuple c,vs,⟨cs,e,hc⟩=>⟨cs,e,VL.reN c cs hc⟩
 | .fn f x y,vs,⟨p,q,e,h1,h2⟩=>⟨p,q,e,VL.reN x p h1,VL.reN y q h2⟩
 | .iface t x,vs,⟨v,e,h1⟩=>⟨v,e,VL.reN x [v] h1⟩
 | .cons x y,vs,⟨v,r,e,h1,h2⟩=>⟨v,r,e,VL.reN x [v] h1,VL.reN y r h2⟩
 | .undef,vs,⟨v,e,hv⟩=>⟨v,e,hv⟩
 | .int k n,vs,⟨v,e,hv⟩=>⟨v,e,hv⟩
 | .bool b,vs,⟨v,e,hv⟩=>⟨v,e,hv⟩
 | .str b,vs,⟨v,e,hv⟩=>⟨v,e,hv⟩
 | .nilp,vs,⟨v,e,hv⟩=>⟨v,e,hv⟩
 | .nilf,vs,⟨v,e,hv⟩=>⟨v,e,hv⟩
 | .nili,vs,⟨v,e,hv⟩=>⟨v,e,hv⟩
 | .nil0,vs,⟨v,e,hv⟩=>⟨v,e,hv⟩
 | .nils _ _,vs,⟨v,e,hv⟩=>⟨v,e,hv⟩
 | .emp _ _,vs,⟨v,e,hv⟩=>⟨v,e,hv⟩
 | .list _ _ _,vs,⟨v,e,hv⟩=>⟨v,e,hv⟩
 | .tl _ _ _,vs,⟨v,e,hv⟩=>⟨v,e,hv⟩
 | .lptr _ _ _ _ _,vs,⟨v,e,hv⟩=>⟨v,e,hv⟩
 | .nl,vs,hv=>hv
theorem VLs.reN:∀(l:List AV) (vs:List Value),VLs S w β H l vs→VLs S w β2 H2 (l.map (AV.reN f)) vs
 | [],_,hv=>hv
 | x::l,_,⟨v,r,e,h1,h2⟩=>⟨v,r,e,VL.reN hs x [v] h1,VLs.reN l r h2⟩
theorem ObR.reN (c:Cr) (ob:Ob) (h:ObR S w β H c ob):ObR S w β2 H2 c (ob.reN f):=by
 cases ob with
 | none=>trivial
 | dead=>trivial
 | cells e cs=>obtain⟨g,vs,e1,e2,e3⟩:=h;exact⟨g,vs,e1,e2,VLs.reN hs cs vs e3⟩
 | row e t xs=>exact h
 | prow e xs=>
  rcases h with ⟨e1,e2⟩ | ⟨g,cur,e1,e2,e3,e4,e5,e6⟩
  · exact .inl ⟨e1,by rw[e2];rfl⟩
  · exact .inr ⟨g,cur,e1,e2,by rw[List.length_map];exact e3,e4,e5,by rw[List.length_map];exact VLs.reN hs xs _ e6⟩
 | map ag t es=>exact h
 | orow e t xs=>exact h
 | hrow e t xs i off=>exact h
 | mit m n seen cur=>
  obtain⟨g,gm,st,e1,e2,e3,e4⟩:=h
  refine⟨g,gm,st,e1,e2,e3,?_⟩
  cases hq:H m with
  | map ag t es=>
   obtain⟨h1,h2⟩:=hs m (by rw[hq];simp)
   rw[hq] at e4 h1
   rw[h1]
   show (β2 (f m)).g=some gm
   rw[h2]
   exact e4
  | dead=>
   obtain⟨h1,h2⟩:=hs m (by rw[hq];simp)
   rw[hq] at h1
   rw[h1]
   trivial
  | _=>rw[hq] at e4;exact e4.elim
end
theorem shift_reN (d:Nat):∀a:AV,a.shift d=a.reN (· + d)
 | .agg c=>by simp only[AV.shift,AV.reN,shift_reN d c]
 | .tuple c=>by simp only[AV.shift,AV.reN,shift_reN d c]
 | .fn f a c=>by simp only[AV.shift,AV.reN,shift_reN d a,shift_reN d c]
 | .iface t v=>by simp only[AV.shift,AV.reN,shift_reN d v]
 | .cons a b=>by simp only[AV.shift,AV.reN,shift_reN d a,shift_reN d b]
 | .undef=>rfl
 | .int _ _=>rfl
 | .bool _=>rfl
 | .str _=>rfl
 | .nilp=>rfl
 | .nilf=>rfl
 | .nili=>rfl
 | .nil0=>rfl
 | .nils _ _=>rfl
 | .ptr _ _=>rfl
 | .row _=>rfl
 | .rptr _ _ _=>rfl
 | .list _ _ _=>rfl
 | .tl _ _ _=>rfl
 | .lptr _ _ _ _ _=>rfl
 | .emp _ _=>rfl
 | .view _ _ _ _ _=>rfl
 | .prow _=>rfl
 | .pptr _ _=>rfl
 | .mp _=>rfl
 | .nptr _=>rfl
 | .itr _=>rfl
 | .nl=>rfl
theorem shift_ob (d:Nat) (o:Ob):o.shift d=o.reN (· + d):=by
 have e:AV.shift d=AV.reN (· + d):=funext (shift_reN d)
 cases o<;>simp only[Ob.shift,Ob.reN,e]
section
variable {d:Nat} {β2:Nat→Cr} {H2:Nat→Ob} (hs:∀k,H k≠.none→H2 (k+d)=(H k).shift d∧β2 (k+d)=β k)
include hs
theorem VL.shift (x:AV) (vs:List Value) (h:VL S w β H x vs):VL S w β2 H2 (x.shift d) vs:=by
 rw[shift_reN]
 exact VL.reN (f:=(· + d)) (fun k hk=>by obtain⟨h1,h2⟩:=hs k hk;exact⟨by rw[h1,shift_ob],h2⟩) x vs h
theorem ObR.shift (c:Cr) (ob:Ob) (h:ObR S w β H c ob):ObR S w β2 H2 c (ob.shift d):=by
 rw[shift_ob]
 exact ObR.reN (f:=(· + d)) (fun k hk=>by obtain⟨h1,h2⟩:=hs k hk;exact⟨by rw[h1,shift_ob],h2⟩) c ob h
end
theorem DR.flat:∀(t:Ty) (x:t.den) (cs:List Value),t.flat=true→DR S w t x cs→DR S1 w t x cs
 | .int _,_,_,_,h=>h
 | .bool,_,_,_,h=>h
 | .str,_,_,_,h=>h
 | .list _ _,_,_,hf,_=>by simp[Ty.flat] at hf
 | .pair a b,x,cs,hf,⟨c1,c2,e,h1,h2⟩=>by
  simp only[Ty.flat,Bool.and_eq_true] at hf
  exact⟨c1,c2,e,DR.flat a _ _ hf.1 h1,DR.flat b _ _ hf.2 h2⟩
 | .unit,_,_,_,h=>h
theorem DRo.flat:∀(t:Ty) (x:t.den) (cs:List Value) (F:List Nat),t.oflat=true→DRo S w t x cs F→DRo S1 w t x cs F
 | .int _,_,_,_,_,h=>h
 | .bool,_,_,_,_,h=>h
 | .str,_,_,_,_,h=>h
 | .list _ _,_,_,_,hf,_=>by simp[Ty.oflat] at hf
 | .unit,_,_,_,_,h=>h
 | .pair a b,x,cs,F,hf,⟨c1,c2,F1,F2,e,e2,h1,h2⟩=>by
  simp only[Ty.oflat,Bool.and_eq_true] at hf
  exact⟨c1,c2,F1,F2,e,e2,DRo.flat a _ _ _ hf.1 h1,DRo.flat b _ _ _ hf.2 h2⟩
 | .ol _ t,_,_,_,hf,h=>by
  rcases h with h | ⟨g,cap,cur,e1,e2,e3,e4,e5,e6,e7⟩
  · exact .inl h
  · exact .inr ⟨g,cap,cur,e1,e2,e3,e4,e5,e6,Cat.mono (fun x cs hx=>DR.flat t x cs hf hx) _ _ e7⟩
theorem CatO.flat {t:Ty} (hf:t.oflat=true):∀(xs:List t.den) (cs:List Value) (F:List Nat),CatO S w t xs cs F→CatO S1 w t xs cs F
 | [],_,_,h=>h
 | _::xs,_,_,⟨c1,c2,F1,F2,e,e2,h1,h2⟩=>⟨c1,c2,F1,F2,e,e2,DRo.flat t _ _ _ hf h1,CatO.flat hf xs _ _ h2⟩
theorem VL.free:∀(x:AV) (vs:List Value),x.noList=true→VL S w β H x vs→VL S1 w β H x vs
 | .list _ _ _,_,hf,_=>by simp[AV.noList] at hf
 | .tl _ _ _,_,hf,_=>by simp[AV.noList] at hf
 | .lptr _ _ _ _ _,_,hf,_=>by simp[AV.noList] at hf
 | .agg c,vs,hf,⟨cs,e,hc⟩=>⟨cs,e,VL.free c cs hf hc⟩
 | .tuple c,vs,hf,⟨cs,e,hc⟩=>⟨cs,e,VL.free c cs hf hc⟩
 | .fn f x y,vs,hf,⟨p,q,e,h1,h2⟩=>by
  simp only[AV.noList,Bool.and_eq_true] at hf
  exact⟨p,q,e,VL.free x p hf.1 h1,VL.free y q hf.2 h2⟩
 | .iface t x,vs,hf,⟨v,e,h1⟩=>⟨v,e,VL.free x [v] hf h1⟩
 | .cons x y,vs,hf,⟨v,r,e,h1,h2⟩=>by
  simp only[AV.noList,Bool.and_eq_true] at hf
  exact⟨v,r,e,VL.free x [v] hf.1 h1,VL.free y r hf.2 h2⟩
 | .ptr _ _,vs,_,⟨v,e,hv⟩=>⟨v,e,hv⟩
 | .row _,vs,_,⟨v,e,hv⟩=>⟨v,e,hv⟩
 | .rptr _ _ _,vs,_,⟨v,e,hv⟩=>⟨v,e,hv⟩
 | .view _ _ _ _ _,vs,_,⟨v,e,hv⟩=>⟨v,e,hv⟩
 | .prow _,vs,_,⟨v,e,hv⟩=>⟨v,e,hv⟩
 | .pptr _ _,vs,_,⟨v,e,hv⟩=>⟨v,e,hv⟩
 | .mp _,vs,_,⟨v,e,hv⟩=>⟨v,e,hv⟩
 | .nptr _,vs,_,⟨v,e,hv⟩=>⟨v,e,hv⟩
 | .itr _,vs,_,⟨v,e,hv⟩=>⟨v,e,hv⟩
 | .emp _ _,vs,_,⟨v,e,hv⟩=>⟨v,e,hv⟩
 | .undef,vs,_,⟨v,e,hv⟩=>⟨v,e,hv⟩
 | .int k n,vs,_,⟨v,e,hv⟩=>⟨v,e,hv⟩
 | .bool b,vs,_,⟨v,e,hv⟩=>⟨v,e,hv⟩
 | .str b,vs,_,⟨v,e,hv⟩=>⟨v,e,hv⟩
 | .nilp,vs,_,⟨v,e,hv⟩=>⟨v,e,hv⟩
 | .nilf,vs,_,⟨v,e,hv⟩=>⟨v,e,hv⟩
 | .nili,vs,_,⟨v,e,hv⟩=>⟨v,e,hv⟩
 | .nil0,vs,_,⟨v,e,hv⟩=>⟨v,e,hv⟩
 | .nils _ _,vs,_,⟨v,e,hv⟩=>⟨v,e,hv⟩
 | .nl,vs,_,hv=>hv
theorem VLs.free:∀(l:List AV) (vs:List Value),l.all AV.noList=true→VLs S w β H l vs→VLs S1 w β H l vs
 | [],vs,_,hv=>hv
 | x::l,vs,hf,⟨v,r,e,h1,h2⟩=>by
  simp only[List.all_cons,Bool.and_eq_true] at hf
  exact⟨v,r,e,VL.free x [v] hf.1 h1,VLs.free l r hf.2 h2⟩
theorem ObR.free (c:Cr) (ob:Ob) (hf:ob.noList=true) (h:ObR S w β H c ob):ObR S1 w β H c ob:=by
 cases ob with
 | none=>trivial
 | dead=>trivial
 | cells e cs=>obtain⟨g,vs,e1,e2,e3⟩:=h;exact⟨g,vs,e1,e2,VLs.free cs vs hf e3⟩
 | row e t xs=>
  rcases h with h | ⟨g,cur,e1,e2,e3,e4,e5,e6⟩
  · exact .inl h
  · exact .inr ⟨g,cur,e1,e2,e3,e4,e5,Cat.mono (fun x cs hx=>DR.flat t x cs hf hx) _ _ e6⟩
 | prow e xs=>
  rcases h with h | ⟨g,cur,e1,e2,e3,e4,e5,e6⟩
  · exact .inl h
  · exact .inr ⟨g,cur,e1,e2,e3,e4,e5,VLs.free xs _ hf e6⟩
 | map ag t es=>
  obtain⟨g,l,e1,e2,e3,e4⟩:=h
  exact⟨g,l,e1,e2,e3,fun i p hp=>by obtain⟨cs,q1,q2⟩:=e4 i p hp;exact⟨cs,DR.flat t _ _ hf q1,q2⟩⟩
 | mit m n seen cur=>exact h
 | orow e t xs=>
  rcases h with h | ⟨g,cur,e1,e2,e3,e4,e5,e6,e7⟩
  · exact .inl h
  · exact .inr ⟨g,cur,e1,e2,e3,e4,e5,CatO.flat hf _ _ _ e6,e7⟩
 | hrow e t xs i off=>cases hf
theorem lookup_news:∀(news:List Ob) (n k:Nat),((news.zipIdx n).map fun p=>(p.2,p.1.shift nid)).lookup k=if n≤k∧k<n+news.length then some ((news.getD (k-n) .none).shift nid) else none
 | [],n,k=>by
  simp only[List.zipIdx_nil,List.map_nil,List.lookup_nil,List.length_nil]
  rw[if_neg (by omega)]
 | x::l,n,k=>by
  simp only[List.zipIdx_cons,List.map_cons,List.lookup]
  by_cases h:k=n
  · subst h
    simp
  · have e:(k==n)=false:=by simpa using h
    simp only[e]
    rw[lookup_news l (n+1) k]
    by_cases h2:n+1≤k∧k<n+1+l.length
    · rw[if_pos h2,if_pos (by simp only[List.length_cons];omega)]
      congr 2
      rw[show k-n=(k-(n+1))+1 by omega]
      simp
    · rw[if_neg h2,if_neg (by simp only[List.length_cons];omega)]
end
section
variable {M S0:Nat→Prop} {w0:World} {S:Nat→Prop} {β:Nat→Cr} {H:Nat→Ob} {w:World} {perm:List Nat}
theorem posOf_get:∀(l:List Nat) (k p q:Nat),posOf l k p=some q→∃j,q=p+j∧l[j]? = some k
 | [],_,_,_,h=>by simp[posOf] at h
 | x::l,k,p,q,h=>by
  simp only[posOf] at h
  cases e:x==k with
  | true=>rw[e] at h;cases h;exact⟨0,rfl,by simpa using e⟩
  | false=>
   rw[e] at h
   obtain⟨j,h1,h2⟩:=posOf_get l k (p+1) q h
   exact⟨j+1,by omega,by simpa using h2⟩
theorem posOf_some:∀(l:List Nat) (k p:Nat),k∈l→posOf l k p≠none
 | x::l,k,p,h=>by
  simp only[posOf]
  cases e:x==k with
  | true=>simp
  | false=>
   rcases List.mem_cons.1 h with rfl | h
   · simp at e
   · exact posOf_some l k (p+1) h
theorem nodup_of:∀l:List Nat,nodupB l=true→l.Nodup
 | [],_=>.nil
 | x::l,h=>by
  simp only[nodupB,Bool.and_eq_true,Bool.not_eq_true'] at h
  exact List.nodup_cons.2 ⟨by simpa using h.1,nodup_of l h.2⟩
def renH (H:Nat→Ob) (perm:List Nat) (p:Nat):Ob:=match perm[p]? with
 | some k=>(H k).ren perm
 | none=>.none
def renC (β:Nat→Cr) (perm:List Nat) (p:Nat):Cr:=match perm[p]? with
 | some k=>β k
 | none=>⟨none,0,[]⟩
theorem pos_H {k p:Nat} (h:posOf perm k 0=some p):renH H perm p=(H k).ren perm∧renC β perm p=β k:=by
 obtain⟨j,rfl,h2⟩:=posOf_get _ _ _ _ h
 rw[Nat.zero_add]
 simp only[renH,renC,h2]
 exact⟨trivial,trivial⟩
theorem leaf.ren:∀(x:AV) (v:Value),leaf S w β H x v→leaf S w (renC β perm) (renH H perm) (x.ren perm) v:=by
 intro x v h
 cases x<;>try exact h
 case ptr k off=>
  simp only[AV.ren]
  cases hp:posOf perm k 0 with
  | none=>trivial
  | some p=>
   obtain⟨h1,h2⟩:=pos_H (H:=H) (β:=β) hp
   show leaf _ _ _ _ (.ptr p off) v
   simp only[leaf,h1,h2] at h ⊢
   cases hk:H k<;>rw[hk] at h<;>first
    | exact h
    | exact (h:False).elim
    | (simp only[Ob.ren,List.length_map];exact h)
 case row k=>
  simp only[AV.ren]
  cases hp:posOf perm k 0 with
  | none=>trivial
  | some p=>
   obtain⟨h1,h2⟩:=pos_H (H:=H) (β:=β) hp
   show leaf _ _ _ _ (.row p) v
   simp only[leaf,h1,h2] at h ⊢
   cases hk:H k<;>rw[hk] at h<;>first
    | exact h
    | exact (h:False).elim
    | (simp only[Ob.ren,List.length_map];exact h)
 case rptr k i off=>
  simp only[AV.ren]
  cases hp:posOf perm k 0 with
  | none=>trivial
  | some p=>
   obtain⟨h1,h2⟩:=pos_H (H:=H) (β:=β) hp
   show leaf _ _ _ _ (.rptr p i off) v
   simp only[leaf,h1,h2] at h ⊢
   cases hk:H k<;>rw[hk] at h<;>first
    | exact h
    | exact (h:False).elim
    | (simp only[Ob.ren,List.length_map];exact h)
 case view k lo n e t=>
  simp only[AV.ren]
  cases hp:posOf perm k 0 with
  | none=>trivial
  | some p=>
   obtain⟨h1,h2⟩:=pos_H (H:=H) (β:=β) hp
   show leaf _ _ _ _ (.view p lo n e t) v
   simp only[leaf,h1,h2] at h ⊢
   cases hk:H k<;>rw[hk] at h<;>first
    | exact h
    | exact (h:False).elim
    | (simp only[Ob.ren,List.length_map];exact h)
 case prow k=>
  simp only[AV.ren]
  cases hp:posOf perm k 0 with
  | none=>trivial
  | some p=>
   obtain⟨h1,h2⟩:=pos_H (H:=H) (β:=β) hp
   show leaf _ _ _ _ (.prow p) v
   simp only[leaf,h1,h2] at h ⊢
   cases hk:H k<;>rw[hk] at h<;>first
    | exact h
    | exact (h:False).elim
    | (simp only[Ob.ren,List.length_map];exact h)
 case pptr k i=>
  simp only[AV.ren]
  cases hp:posOf perm k 0 with
  | none=>trivial
  | some p=>
   obtain⟨h1,h2⟩:=pos_H (H:=H) (β:=β) hp
   show leaf _ _ _ _ (.pptr p i) v
   simp only[leaf,h1,h2] at h ⊢
   cases hk:H k<;>rw[hk] at h<;>first
    | exact h
    | exact (h:False).elim
    | (simp only[Ob.ren,List.length_map];exact h)
 case mp k=>
  simp only[AV.ren]
  cases hp:posOf perm k 0 with
  | none=>trivial
  | some p=>
   obtain⟨h1,h2⟩:=pos_H (H:=H) (β:=β) hp
   show leaf _ _ _ _ (.mp p) v
   simp only[leaf,h1,h2] at h ⊢
   cases hk:H k<;>rw[hk] at h<;>first
    | exact h
    | exact (h:False).elim
    | (simp only[Ob.ren,List.length_map];exact h)
 case nptr k=>
  simp only[AV.ren]
  cases hp:posOf perm k 0 with
  | none=>trivial
  | some p=>
   obtain⟨h1,h2⟩:=pos_H (H:=H) (β:=β) hp
   show leaf _ _ _ _ (.nptr p) v
   simp only[leaf,h1,h2] at h ⊢
   cases hk:H k<;>rw[hk] at h<;>first
    | exact h
    | exact (h:False).elim
    | (simp only[Ob.ren,List.length_map];exact h)
 case itr k=>
  simp only[AV.ren]
  cases hp:posOf perm k 0 with
  | none=>trivial
  | some p=>
   obtain⟨h1,h2⟩:=pos_H (H:=H) (β:=β) hp
   show leaf _ _ _ _ (.itr p) v
   simp only[leaf,h1,h2] at h ⊢
   cases hk:H k with
   | mit m n seen cur=>
    rw[hk] at h
    obtain⟨g,hg,hv⟩:=h
    simp only[Ob.ren]
    cases posOf perm m 0 with
    | some q=>exact⟨g,hg,hv⟩
    | none=>show v.oneCell'=true;rw[hv];rfl
   | dead=>rw[hk] at h;exact h
   | _=>rw[hk] at h;exact (h:False).elim
theorem VL.ren:∀(x:AV) (vs:List Value),VL S w β H x vs→VL S w (renC β perm) (renH H perm) (x.ren perm) vs
 | .ptr k off,vs,⟨v,e,hv⟩=>by
  have h:=leaf.ren (perm:=perm) (.ptr k off) v hv
  simp only[AV.ren] at h ⊢
  cases hp:posOf perm k 0<;>rw[hp] at h<;>exact⟨v,e,h⟩
 | .row k,vs,⟨v,e,hv⟩=>by
  have h:=leaf.ren (perm:=perm) (.row k) v hv
  simp only[AV.ren] at h ⊢
  cases hp:posOf perm k 0<;>rw[hp] at h<;>exact⟨v,e,h⟩
 | .rptr k i off,vs,⟨v,e,hv⟩=>by
  have h:=leaf.ren (perm:=perm) (.rptr k i off) v hv
  simp only[AV.ren] at h ⊢
  cases hp:posOf perm k 0<;>rw[hp] at h<;>exact⟨v,e,h⟩
 | .view k lo n t' t,vs,⟨v,e,hv⟩=>by
  have h:=leaf.ren (perm:=perm) (.view k lo n t' t) v hv
  simp only[AV.ren] at h ⊢
  cases hp:posOf perm k 0<;>rw[hp] at h<;>exact⟨v,e,h⟩
 | .prow k,vs,⟨v,e,hv⟩=>by
  have h:=leaf.ren (perm:=perm) (.prow k) v hv
  simp only[AV.ren] at h ⊢
  cases hp:posOf perm k 0<;>rw[hp] at h<;>exact⟨v,e,h⟩
 | .pptr k i,vs,⟨v,e,hv⟩=>by
  have h:=leaf.ren (perm:=perm) (.pptr k i) v hv
  simp only[AV.ren] at h ⊢
  cases hp:posOf perm k 0<;>rw[hp] at h<;>exact⟨v,e,h⟩
 | .mp k,vs,⟨v,e,hv⟩=>by
  have h:=leaf.ren (perm:=perm) (.mp k) v hv
  simp only[AV.ren] at h ⊢
  cases hp:posOf perm k 0<;>rw[hp] at h<;>exact⟨v,e,h⟩
 | .nptr k,vs,⟨v,e,hv⟩=>by
  have h:=leaf.ren (perm:=perm) (.nptr k) v hv
  simp only[AV.ren] at h ⊢
  cases hp:posOf perm k 0<;>rw[hp] at h<;>exact⟨v,e,h⟩
 | .itr k,vs,⟨v,e,hv⟩=>by
  have h:=leaf.ren (perm:=perm) (.itr k) v hv
  simp only[AV.ren] at h ⊢
  cases hp:posOf perm k 0<;>rw[hp] at h<;>exact⟨v,e,h⟩
 | .agg c,vs,⟨cs,e,hc⟩=>⟨cs,e,VL.ren c cs hc⟩
 | .tuple c,vs,⟨cs,e,hc⟩=>⟨cs,e,VL.ren c cs hc⟩
 | .fn f x y,vs,⟨p,q,e,h1,h2⟩=>⟨p,q,e,VL.ren x p h1,VL.ren y q h2⟩
 | .iface t x,vs,⟨v,e,h1⟩=>⟨v,e,VL.ren x [v] h1⟩
 | .cons x y,vs,⟨v,r,e,h1,h2⟩=>⟨v,r,e,VL.ren x [v] h1,VL.ren y r h2⟩
 | .undef,vs,⟨v,e,hv⟩=>⟨v,e,hv⟩
 | .int k n,vs,⟨v,e,hv⟩=>⟨v,e,hv⟩
 | .bool b,vs,⟨v,e,hv⟩=>⟨v,e,hv⟩
 | .str b,vs,⟨v,e,hv⟩=>⟨v,e,hv⟩
 | .nilp,vs,⟨v,e,hv⟩=>⟨v,e,hv⟩
 | .nilf,vs,⟨v,e,hv⟩=>⟨v,e,hv⟩
 | .nili,vs,⟨v,e,hv⟩=>⟨v,e,hv⟩
 | .nil0,vs,⟨v,e,hv⟩=>⟨v,e,hv⟩
 | .nils _ _,vs,⟨v,e,hv⟩=>⟨v,e,hv⟩
 | .emp _ _,vs,⟨v,e,hv⟩=>⟨v,e,hv⟩
 | .list _ _ _,vs,⟨v,e,hv⟩=>⟨v,e,hv⟩
 | .tl _ _ _,vs,⟨v,e,hv⟩=>⟨v,e,hv⟩
 | .lptr _ _ _ _ _,vs,⟨v,e,hv⟩=>⟨v,e,hv⟩
 | .nl,vs,hv=>hv
theorem VLs.ren:∀(l:List AV) (vs:List Value),VLs S w β H l vs→VLs S w (renC β perm) (renH H perm) (l.map (AV.ren perm)) vs
 | [],_,hv=>hv
 | x::l,_,⟨v,r,e,h1,h2⟩=>⟨v,r,e,VL.ren x [v] h1,VLs.ren l r h2⟩
theorem ren_live (perm:List Nat) (o:Ob) (h:(o.ren perm).live=true):o.live=true:=by
 cases o with
 | mit m n seen cur=>rfl
 | _=>exact h
theorem Rel.ren (h:Rel M S0 w0 S β H w) (hn:perm.Nodup):Rel M S0 w0 S (renC β perm) (renH H perm) w:=by
 have lv:∀o:Ob,(o.ren perm).live=true→o.live=true:=ren_live perm
 have hold:∀p g,(renH H perm p).live=true→(renC β perm p).has g→∃k,perm[p]? = some k∧(H k).live=true∧(β k).has g:=by
  intro p g hl hg
  unfold renH at hl
  unfold renC at hg
  cases e:perm[p]? with
  | none=>rw[e] at hl;cases hl
  | some k=>rw[e] at hl hg;exact⟨k,rfl,lv _ hl,hg⟩
 refine⟨h.fr,h.s0,h.sS,fun p g hl hg => ?_,fun p p' g hl hl' hg hg' => ?_,fun p => ?_,h.gl⟩
 · obtain⟨k,_,h1,h2⟩:=hold p g hl hg
   exact h.own k g h1 h2
 · obtain⟨k,e,h1,h2⟩:=hold p g hl hg
   obtain⟨k',e',h1',h2'⟩:=hold p' g hl' hg'
   have:=h.dis k k' g h1 h1' h2 h2'
   subst this
   obtain⟨l1,e1⟩:=List.getElem?_eq_some_iff.1 e
   exact (List.getElem?_inj l1 hn).1 (e.trans e'.symm)
 · unfold renH renC
   cases e:perm[p]? with
   | none=>trivial
   | some k=>
    simp only
    have hob:=h.ob k
    cases ho:H k with
    | none=>trivial
    | dead=>trivial
    | cells el cs=>
     rw[ho] at hob
     obtain⟨g,vs,q1,q2,q3⟩:=hob
     exact⟨g,vs,q1,q2,VLs.ren cs vs q3⟩
    | row el t xs=>rw[ho] at hob;exact hob
    | prow el xs=>
     rw[ho] at hob
     rcases hob with ⟨q1,q2⟩ | ⟨g,cur,q1,q2,q3,q4,q5,q6⟩
     · exact .inl ⟨q1,by rw[q2];rfl⟩
     · exact .inr ⟨g,cur,q1,q2,by rw[List.length_map];exact q3,q4,q5,by rw[List.length_map];exact VLs.ren xs _ q6⟩
    | map ag t es=>rw[ho] at hob;exact hob
    | orow e t xs=>rw[ho] at hob;exact hob
    | hrow e t xs i off=>rw[ho] at hob;exact hob
    | mit m n seen cur=>
     rw[ho] at hob
     obtain⟨g,gm,st,q1,q2,q3,q4⟩:=hob
     simp only[Ob.ren]
     cases hp:posOf perm m 0 with
     | none=>trivial
     | some q=>
      obtain⟨p1,p2⟩:=pos_H (H:=H) (β:=β) hp
      refine⟨g,gm,st,q1,q2,q3,?_⟩
      show (match renH H perm q with
       | .map _ _ _=>(renC β perm q).g=some gm
       | .dead=>True
       | _=>False)
      rw[p1,p2]
      cases hq:H m with
      | map ag t es=>rw[hq] at q4;exact q4
      | dead=>trivial
      | _=>rw[hq] at q4;exact q4.elim
end
end Go.Proofs.YtkpjcmiijlpcaaaDoor.Aw
