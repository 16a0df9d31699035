/- An abstract program logic over the model, twenty-first part: functions; a table of types, . -/
import Derived.Test.YtkpjcmiijlpcaaaGreatAwAB
namespace Go.Proofs.YtkpjcmiijlpcaaaGreat.Aw
open Go
def resA (T:Tab) (s:St):List ResultVar→Option (List AV)
 | []=>some []
 | .tmp t::l=>(resA T s l).map fun vs=>s.slots.getD t .undef::vs
 | .cell x t::l=>match s.slots.getD x .undef with
  | .ptr k off=>match s.H k with
   | .cells _ cs=>match aggOf (T.at_ t) (cut cs off (T.at_ t).size) with
    | some v=>(resA T s l).map fun vs=>v::vs
    | none=>none
   | _=>none
  | _=>none
def resTmps (fn:Func):List Nat:=fn.results.toList.map fun
 | .tmp t=>t
 | .cell x _=>x
def oneOf:List AV→AV
 | [v]=>v
 | vs=>.tuple (AV.ofList vs)
def endA (T:Tab) (fn:Func) (R:AV→List Ob→Prop):Ex→St→Prop
 | .exit _,_=>False
 | .panic _,_=>False
 | .normal,s=>match resA T s fn.results.toList with
  | some vs=>R (oneOf ((St.mk vs s.obs s.n 0 false).tidy (List.range vs.length)).slots) ((St.mk vs s.obs s.n 0 false).tidy (List.range vs.length)).obs
  | none=>False
 | .ret,s=>match resA T s fn.results.toList with
  | some vs=>R (oneOf ((St.mk vs s.obs s.n 0 false).tidy (List.range vs.length)).slots) ((St.mk vs s.obs s.n 0 false).tidy (List.range vs.length)).obs
  | none=>False
def endP (T:Tab) (fn:Func) (R:AV→List Ob→Prop) (RP:Value→List Ob→Prop):Ex→St→Prop
 | .panic x,s=>RP x ((St.mk [] s.obs s.n 0 false).tidy []).obs
 | .exit _,_=>False
 | .normal,s=>endA T fn R .normal s
 | .ret,s=>endA T fn R .ret s
def endI (T:Tab) (fn:Func) (cnt:Nat):Ex→St→Prop
 | .normal,s=>(resA T s fn.results.toList).isSome=true∧(s.stop=true∨s.y=cnt)
 | .ret,s=>(resA T s fn.results.toList).isSome=true∧(s.stop=true∨s.y=cnt)
 | _,_=>False
def startA (fn:Func) (args:List AV):St:=⟨args++List.replicate (fn.ntmps-args.length) .undef,[],0,0,false⟩
def startB (fn:Func) (args:List AV) (obs:List Ob):St:=⟨args++List.replicate (fn.ntmps-args.length) .undef,obs,obs.length,0,false⟩
def fnA (T:Tab) (env:Env) (fn:Func) (c:Code) (args:List AV) (R:AV→List Ob→Prop):Prop:=
 codeA T env c (resTmps fn) (startA fn args) (endA T fn R)
def fnB (T:Tab) (env:Env) (fn:Func) (c:Code) (args:List AV) (obs:List Ob) (R:AV→List Ob→Prop):Prop:=
 codeA T env c (resTmps fn) (startB fn args obs) (endA T fn R)
def Env.it (env:Env) (l cnt:Nat) (arg:Nat→List AV):Env:={env with isIt:=true,yl:=l,ycnt:=cnt,yarg:=arg}
def fnI (T:Tab) (env:Env) (fn:Func) (c:Code) (args caps:List AV) (obs:List Ob) (l cnt:Nat) (arg:Nat→List AV):Prop:=
 codeA T (env.it l cnt arg) c (resTmps fn) (startB fn (args++[.fn (.yield l) .nl .nl]++caps) obs) (endI T fn cnt)
section
variable {P:Program} {T:Tab} {env:Env} {M S0:Nat→Prop} {w0:World} {π:Pin} {S:Nat→Prop} {β:Nat→Cr} {H:Nat→Ob} {w:World} {a:Act} {sl:List AV}
def resOf (tmps:Array Value):ResultVar→Sem Value
 | .tmp t=>pure (tmps.getD t undef)
 | .cell x t=>do loadVar t (←asAddr (tmps.getD x undef))
theorem results_eq (fn:Func) (tmps:Array Value):results fn tmps=(do
 let vs ←fn.results.mapM (resOf tmps)
 pure (if h:vs.size=1 then vs[0] else .tuple vs)):=by
 unfold results
 congr 2
theorem res_of (hT:TabOk P T) {s:St} (h:Inv M S0 w0 π s.slots s.H S β a w):∀(l:List ResultVar) (vs:List AV),resA T s l=some vs→∃us:List Value,(l.mapM (resOf a.tmps)).run P w=.ok us w∧VLs S w β s.H vs us
 | [],vs,hr=>by
  simp only[resA,Option.some.injEq] at hr
  subst hr
  exact⟨[],rfl,rfl⟩
 | .tmp t::l,vs,hr=>by
  simp only[resA] at hr
  obtain⟨ws,h1,h2⟩:=Option.map_eq_some_iff.1 hr
  obtain⟨us,h3,h4⟩:=res_of hT h l ws h1
  subst h2
  refine⟨a.tmps.getD t undef::us,?_,_,_,rfl,h.sl t,h4⟩
  simp only[List.mapM_cons,resOf,pure_bind,Sem.run_bind,h3,Result.andThen_ok,Sem.run_pure]
 | .cell x t::l,vs,hr=>by
  simp only[resA] at hr
  split at hr
  rotate_left
  · cases hr
  rename_i k off hx
  split at hr
  rotate_left
  · cases hr
  rename_i e cs hk
  split at hr
  rotate_left
  · cases hr
  rename_i v hv
  obtain⟨ws,h1,h2⟩:=Option.map_eq_some_iff.1 hr
  obtain⟨us,h3,h4⟩:=res_of hT h l ws h1
  subst h2
  have hp:=h.sl x
  rw[hx] at hp
  obtain⟨u0,q1,q2⟩:=hp
  simp only[leaf,hk] at q2
  obtain⟨g,hg,hu⟩:=q2
  have hob:=h.rel.ob k
  rw[hk] at hob
  obtain⟨g',vs',r1,r2,r3⟩:=hob
  rw[hg] at r1
  cases r1
  obtain⟨u,hu1,hu2⟩:=load_of (ad:=⟨g,off,none⟩) hT (VLs.take (T.at_ t).size _ _ (VLs.drop off _ _ r3)) hv (by
   intro j u hj
   rw[add_lit,cell_of_row w g (off+j) _ _ _ r2]
   rw[List.getElem?_take] at hj
   split at hj
   · simpa using hj
   · cases hj)
  refine⟨u::us,?_,_,_,rfl,hu2,h4⟩
  have hu:a.tmps.getD x undef=.pointer (some ⟨g,off,none⟩):=by
   have q1:=List.cons.inj q1
   exact q1.1.trans hu
  simp only[List.mapM_cons,resOf,hu,asAddr,Sem.run_bind,Sem.run_pure,Result.andThen_ok,pure_bind,hu1,h3]
theorem oneOf_of {vs:List AV} {us:List Value} (h:VLs S w β H vs us):VL S w β H (oneOf vs) [if h:us.toArray.size=1 then us.toArray[0] else .tuple us.toArray]:=by
 have hl:=VLs.length _ _ h
 match vs,us,h,hl with
 | [],[],_,_=>exact⟨[],rfl,rfl⟩
 | [v],[u],h,_=>obtain⟨u',r,e,h1,_⟩:=h;cases e;exact h1
 | v::v'::l,u::u'::l',h,_=>
  refine⟨u::u'::l',?_,VLs.of_list _ _ h⟩
  simp
theorem vls_of:∀(vs:List AV) (us:List Value),vs.length=us.length→(∀t,VL S w β H (vs.getD t .undef) [us.toArray.getD t undef])→VLs S w β H vs us
 | [],[],_,_=>rfl
 | v::vs,u::us,hl,h=>by
  refine⟨u,us,rfl,by simpa using h 0,vls_of vs us (by simpa using hl) fun t => ?_⟩
  have:=h (t+1)
  simpa using this
section
variable {D:Nat} {w1:World} (hc:∀ad:Addr,ad.block=D→w.cell? ad=none) (ho:∀b,b≠D→w1.heap[b]? = w.heap[b]?)
include hc ho
theorem Rd.cut {x:Option Addr} {cs:List Value} (h:Rd S w x cs):Rd (fun b=>S b∧b≠D) w1 x cs:=by
 intro j u hj
 obtain⟨ad,e,hs,hcell⟩:=h j u hj
 have hb:(ad.add j).block=ad.block:=by unfold Addr.add;split<;>rfl
 have hne:ad.block≠D:=by
  intro hd
  rw[hc (ad.add j) (hb.trans hd)] at hcell
  cases hcell
 refine⟨ad,e,⟨hs,hne⟩,?_⟩
 rw[World.cell?_of_block (w:=w) (by rw[hb];exact ho _ hne)]
 exact hcell
theorem DR.cut:∀(t:Ty) (x:t.den) (cs:List Value),DR S w t x cs→DR (fun b=>S b∧b≠D) w1 t x cs
 | .int _,_,_,h=>h
 | .bool,_,_,h=>h
 | .str,_,_,h=>h
 | .list _ t,_,_,⟨a,n,c,es,e1,e2,e3,e4,e5,e6⟩=>⟨a,n,c,es,e1,e2,e3,Cat.mono (DR.cut t) _ _ e4,e5.cut hc ho,e6⟩
 | .pair a b,_,_,⟨c1,c2,e,h1,h2⟩=>⟨c1,c2,e,DR.cut a _ _ h1,DR.cut b _ _ h2⟩
 | .unit,_,_,h=>h
 | .ol _ t,_,_,⟨a,n,c,es,e1,e2,e3,e4,e5,e6⟩=>⟨a,n,c,es,e1,e2,e3,Cat.mono (DR.cut t) _ _ e4,e5.cut hc ho,e6⟩
theorem DRo.cut:∀(t:Ty) (x:t.den) (cs:List Value) (F:List Nat),(∀b∈F,b≠D)→DRo S w t x cs F→DRo (fun b=>S b∧b≠D) w1 t x cs F
 | .int _,_,_,_,_,h=>⟨DR.cut hc ho _ _ _ h.1,h.2⟩
 | .bool,_,_,_,_,h=>⟨DR.cut hc ho _ _ _ h.1,h.2⟩
 | .str,_,_,_,_,h=>⟨DR.cut hc ho _ _ _ h.1,h.2⟩
 | .list _ _,_,_,_,_,h=>⟨DR.cut hc ho _ _ _ h.1,h.2⟩
 | .unit,_,_,_,_,h=>⟨DR.cut hc ho _ _ _ h.1,h.2⟩
 | .pair a b,_,_,_,hF,⟨c1,c2,F1,F2,e,e2,h1,h2⟩=>⟨c1,c2,F1,F2,e,e2,DRo.cut a _ _ _ (fun b hb=>hF b (by rw[e2];simp[hb])) h1,DRo.cut b _ _ _ (fun b hb=>hF b (by rw[e2];simp[hb])) h2⟩
 | .ol _ t,_,_,_,hF,h=>by
  rcases h with h | ⟨g,cap,cur,e1,e2,e3,e4,e5,e6,e7⟩
  · exact .inl h
  · exact .inr ⟨g,cap,cur,e1,e2,(ho g (hF g (by rw[e2];simp))).trans e3,e4,e5,e6,Cat.mono (DR.cut hc ho t) _ _ e7⟩
theorem CatO.cut (t:Ty):∀(xs:List t.den) (cs:List Value) (F:List Nat),(∀b∈F,b≠D)→CatO S w t xs cs F→CatO (fun b=>S b∧b≠D) w1 t xs cs F
 | [],_,_,_,h=>h
 | _::xs,_,_,hF,⟨c1,c2,F1,F2,e,e2,h1,h2⟩=>⟨c1,c2,F1,F2,e,e2,DRo.cut hc ho t _ _ _ (fun b hb=>hF b (by rw[e2];simp[hb])) h1,CatO.cut t xs _ _ (fun b hb=>hF b (by rw[e2];simp[hb])) h2⟩
theorem VL.cut:∀(x:AV) (vs:List Value),VL S w β H x vs→VL (fun b=>S b∧b≠D) w1 β H x vs
 | .list e t xs,vs,⟨v,e1,hv⟩=>⟨v,e1,DR.cut hc ho (.list e t) xs [v] hv⟩
 | .tl e t xs,vs,⟨v,e1,hv,hz⟩=>⟨v,e1,DR.cut hc ho (.list e t) xs [v] hv,hz⟩
 | .lptr e t xs i off,vs,⟨v,e1,h0,hi,ad,es,h1,h2,hv⟩=>⟨v,e1,h0,hi,ad,es,Cat.mono (DR.cut hc ho t) _ _ h1,h2.cut hc ho,hv⟩
 | .agg c,vs,⟨cs,e,h⟩=>⟨cs,e,VL.cut c cs h⟩
 | .tuple c,vs,⟨cs,e,h⟩=>⟨cs,e,VL.cut c cs h⟩
 | .fn f x y,vs,⟨p,q,e,h1,h2⟩=>⟨p,q,e,VL.cut x p h1,VL.cut y q h2⟩
 | .iface t x,vs,⟨v,e,h1⟩=>⟨v,e,VL.cut x [v] h1⟩
 | .cons x y,vs,⟨v,r,e,h1,h2⟩=>⟨v,r,e,VL.cut x [v] h1,VL.cut y r h2⟩
 | .ptr _ _,vs,h=>h
 | .row _,vs,h=>h
 | .rptr _ _ _,vs,h=>h
 | .view _ _ _ _ _,vs,h=>h
 | .prow _,vs,h=>h
 | .pptr _ _,vs,h=>h
 | .mp _,vs,h=>h
 | .itr _,vs,h=>h
 | .emp _ _,vs,h=>h
 | .undef,vs,h=>h
 | .int _ _,vs,h=>h
 | .bool _,vs,h=>h
 | .str _,vs,h=>h
 | .nilp,vs,h=>h
 | .nilf,vs,h=>h
 | .nili,vs,h=>h
 | .nil0,vs,h=>h
 | .nils _ _,vs,h=>h
 | .nl,vs,h=>h
theorem VLs.cut:∀(l:List AV) (vs:List Value),VLs S w β H l vs→VLs (fun b=>S b∧b≠D) w1 β H l vs
 | [],_,h=>h
 | x::l,vs,⟨v,r,e,h1,h2⟩=>⟨v,r,e,VL.cut hc ho x [v] h1,VLs.cut l r h2⟩
theorem ObR.cut (c:Cr) (ob:Ob) (hg:∀g,c.has g→ob.live=true→g≠D) (h:ObR S w β H c ob):ObR (fun b=>S b∧b≠D) w1 β H c ob:=by
 cases ob with
 | none=>trivial
 | dead=>trivial
 | cells e cs=>obtain⟨g,vs,e1,e2,e3⟩:=h;exact⟨g,vs,e1,(ho g (hg g (.inl e1) rfl)).trans e2,VLs.cut hc ho cs vs e3⟩
 | row e t xs=>
  rcases h with h | ⟨g,cur,e1,e2,e3,e4,e5,e6⟩
  · exact .inl h
  · exact .inr ⟨g,cur,e1,(ho g (hg g (.inl e1) rfl)).trans e2,e3,e4,e5,Cat.mono (DR.cut hc ho t) _ _ e6⟩
 | prow e xs=>
  rcases h with h | ⟨g,cur,e1,e2,e3,e4,e5,e6⟩
  · exact .inl h
  · exact .inr ⟨g,cur,e1,(ho g (hg g (.inl e1) rfl)).trans e2,e3,e4,e5,VLs.cut hc ho xs _ e6⟩
 | map ag t es=>
  obtain⟨g,l,e1,e2,e3,e4⟩:=h
  exact⟨g,l,e1,(ho g (hg g (.inl e1) rfl)).trans e2,e3,fun i p hp=>by obtain⟨cs,q1,q2⟩:=e4 i p hp;exact⟨cs,DR.cut hc ho t _ _ q1,q2⟩⟩
 | mit m n seen cur=>
  obtain⟨g,gm,st,e1,e2,e3,e4⟩:=h
  exact⟨g,gm,st,e1,(ho g (hg g (.inl e1) rfl)).trans e2,e3,e4⟩
 | orow e t xs=>
  rcases h with h | ⟨g,cur,e1,e2,e3,e4,e5,e6,e7⟩
  · exact .inl h
  · exact .inr ⟨g,cur,e1,(ho g (hg g (.inl e1) rfl)).trans e2,e3,e4,e5,CatO.cut hc ho t _ _ _ (fun b hb=>hg b (.inr hb) rfl) e6,e7⟩
 | hrow e t xs i off=>
  obtain⟨g,cur,e1,e2,e3,e4,e5,e6,e7,e8,e9,e10⟩:=h
  exact⟨g,cur,e1,(ho g (hg g (.inl e1) rfl)).trans e2,e3,e4,e5,e6,e7,e8,CatO.cut hc ho t _ _ _ (fun b hb=>hg b (.inr hb) rfl) e9,e10⟩
end
theorem marks_of (tmps:Array Value):∀(ds:List Deferred) (S:Nat→Prop) (w:World),Rel M S0 w0 S β H w→(∀t,VL S w β H (sl.getD t .undef) [tmps.getD t undef])→DefsOk S0 S w ds →
 ∃S' w',Rel M S0 w0 S' β H w'∧(∀t,VL S' w' β H (sl.getD t .undef) [tmps.getD t undef])∧∀fn R' u,u≠.run→LeavesInM (Wd none) 0 P fn tmps R' [] u w'→LeavesInM (Wd none) 0 P fn tmps R' ds u w
 | [],S,w,hr,hs,_=>⟨S,w,hr,hs,fun _ _ _ _ h=>h⟩
 | d::ds,S,w,hr,hs,⟨⟨D,e,h0,h1,h2,h3⟩,h4⟩=>by
  subst e
  have hlt:D<w.heap.size:=(Array.getElem?_eq_some_iff.1 h2).1
  have hc:∀ad:Addr,ad.block=D→w.cell? ad=none:=by
   intro ad e
   unfold World.cell?
   rw[e,h2]
  have ho:∀b,b≠D→(w.putObj D (.deferred none)).heap[b]? = w.heap[b]? := fun b hb=>World.putObj_heap_other hb
  have hD0:w0.heap.size≤D:=by
   rcases (hr.sS D h1).2 with h | h
   · exact absurd h h0
   · exact h
  have hr':Rel M S0 w0 (fun b=>S b∧b≠D) β H (w.putObj D (.deferred none)):=by
   refine⟨⟨hr.fr.os,hr.fr.tape,hr.fr.output,by rw[World.putObj_size];exact hr.fr.size,fun b hb hm=>(ho b (by omega)).trans (hr.fr.block b hb hm),hr.fr.drawn⟩,fun b hb=>⟨hr.s0 b hb,fun e=>h0 (e▸hb)⟩,fun b hb=>⟨by rw[World.putObj_size];exact (hr.sS b hb.1).1,(hr.sS b hb.1).2⟩,fun k g hl hg=>⟨(hr.own k g hl hg).1,by rw[World.putObj_size];exact (hr.own k g hl hg).2.1,fun hb=>(hr.own k g hl hg).2.2 hb.1⟩,hr.dis,fun k=>ObR.cut hc ho _ _ (fun g hg hl e=>(hr.own k g hl hg).2.2 (e▸h1)) (hr.ob k)⟩
  have hd':∀ds:List Deferred,(∀d'∈ds,d'.target≠.collected D)→DefsOk S0 S w ds→DefsOk S0 (fun b=>S b∧b≠D) (w.putObj D (.deferred none)) ds:=by
   intro ds
   induction ds with
   | nil=>intro _ _;trivial
   | cons d ds ih=>
    rintro hne ⟨⟨D',e,k0,k1,k2,k3⟩,k4⟩
    have hne':D'≠D:=by
     intro e'
     have:=hne d (List.mem_cons_self ..)
     rw[e,e'] at this
     exact this rfl
    exact⟨⟨D',e,k0,⟨k1,hne'⟩,(ho D' hne').trans k2,k3⟩,ih (fun d' hd=>hne d' (List.mem_cons_of_mem _ hd)) k4⟩
  obtain⟨S',w',g1,g2,g3⟩:=marks_of tmps ds _ _ hr' (fun t=>VL.cut hc ho _ _ (hs t)) (hd' ds h3 h4)
  exact⟨S',w',g1,g2,fun fn R' u hu hh=>⟨hu,.inl ⟨D,_,rfl,run_takeDeferred h2,g3 fn R' u hu hh⟩⟩⟩
theorem marks_inv (h:Inv M S0 w0 π sl H S β a w):∃S' w',Inv M S0 w0 π sl H S' β ⟨a.tmps,[]⟩ w'∧∀fn R' u,u≠.run→LeavesInM (Wd none) 0 P fn a.tmps R' [] u w'→LeavesInM (Wd none) 0 P fn a.tmps R' a.defers u w:=by
 obtain⟨S',w',g1,g2,g3⟩:=marks_of (P:=P) a.tmps a.defers S w h.rel h.sl h.nod.2
 exact⟨S',w',⟨g1,h.len,g2,⟨fun _=>rfl,trivial⟩,h.pin⟩,g3⟩
theorem ret_sound (hT:TabOk P T) {fn:Func} {R:AV→List Ob→Prop} {R':Ending→World→Prop}
 (hR:∀v news S β w u,Rel M S0 w0 S β (newsH news) w→VL S w β (newsH news) v [u]→(∀k,k<π.n→ObExt (π.β k) (π.H k) (β k) (newsH news k))→R v news→R' (.returned u) w)
 {s:St} (hi:Inv M S0 w0 π s.slots s.H S β a w) (hn:s.n=π.n) (h:endA T fn R .ret s):LeavesInM (Wd none) 0 P fn a.tmps R' a.defers .returning w:=by
 obtain⟨S',w',hi',hl⟩:=marks_inv (P:=P) hi
 refine hl fn R' .returning (by simp) ?_
 simp only[endA] at h
 split at h
 rotate_left
 · cases h
 rename_i vs hvs
 obtain⟨us,h1,h2⟩:=res_of hT hi' fn.results.toList vs hvs
 have hi2:Inv M S0 w0 π (St.mk vs s.obs s.n 0 false).slots (St.mk vs s.obs s.n 0 false).H S' β ⟨us.toArray,[]⟩ w':=by
  refine⟨hi'.rel,?_,fun t => ?_,⟨fun _=>rfl,trivial⟩,hi'.pin⟩
  · rw[List.size_toArray,VLs.length _ _ h2]
    exact Nat.le_refl _
  · show VL S' w' β s.H (vs.getD t .undef) _
    cases e:vs[t]? with
    | none=>
     rw[List.getD,e]
     exact⟨_,rfl,trivial⟩
    | some v=>
     obtain⟨u,g1,g2⟩:=VLs.get _ _ h2 t v e
     rw[List.getD,e]
     have:us.toArray.getD t undef=u:=by
      simp[g1]
     rw[this]
     exact g2
 obtain⟨β',hi3⟩:=tidy_sound (s:=St.mk vs s.obs s.n 0 false) (List.range vs.length) hn hi2
 have hlen:=tidy_length (List.range vs.length) (St.mk vs s.obs s.n 0 false)
 generalize (St.mk vs s.obs s.n 0 false).tidy (List.range vs.length)=s' at h hi3 hlen
 have hv:=oneOf_of (vls_of _ _ (hlen.trans (VLs.length _ _ h2).symm) hi3.sl)
 refine⟨_,?_,hR _ _ S' β' w' _ hi3.rel hv hi3.pin h⟩
 rw[results_eq,Array.mapM_eq_mapM_toList]
 simp only[map_eq_pure_bind,bind_assoc,pure_bind,Sem.run_bind,h1,Result.andThen_ok,Sem.run_pure]
abbrev baseB (M S0:Nat→Prop) (w0:World):Bs:=fun _ _ M' S0' w0'=>M=M'∧S0=S0'∧w0=w0'
theorem end_sound (hT:TabOk P T) {fn:Func} {R:AV→List Ob→Prop} {RP:Value→List Ob→Prop} {R':Ending→World→Prop}
 (hR:∀v news S β w u,Rel M S0 w0 S β (newsH news) w→VL S w β (newsH news) v [u]→(∀k,k<π.n→ObExt (π.β k) (π.H k) (β k) (newsH news k))→R v news→R' (.returned u) w)
 (hP:∀x news S β w,Rel M S0 w0 S β (newsH news) w→(∀k,k<π.n→ObExt (π.β k) (π.H k) (β k) (newsH news k))→RP x news→R' (.panicked [{v:=x,recovered:=false}]) w):Lifts (baseB M S0 w0) π (endP T fn R RP) (bodyPostM (Wd none) 0 P fn R'):=by
 rintro e s S β a w ⟨M',S0',w0',⟨rfl,rfl,rfl⟩,hi⟩ hn h
 cases e with
 | exit i=>exact h.elim
 | normal=>exact ret_sound hT hR hi hn h
 | ret=>exact ret_sound hT hR hi hn h
 | panic x=>
  obtain⟨S',w',hi',hl⟩:=marks_inv (P:=P) hi
  refine hl fn R' _ (by simp) ?_
  have hi2:Inv M S0 w0 π (St.mk [] s.obs s.n 0 false).slots (St.mk [] s.obs s.n 0 false).H S' β ⟨#[],[]⟩ w':=⟨hi'.rel,Nat.le_refl _,fun t=>⟨_,rfl,trivial⟩,⟨fun _=>rfl,trivial⟩,hi'.pin⟩
  obtain⟨β',hi3⟩:=tidy_sound (s:=St.mk [] s.obs s.n 0 false) [] hn hi2
  exact hP x _ S' β' w' hi3.rel hi3.pin h
theorem start_inv {fn:Func} {args:List AV} {obs:List Ob} {vs:List Value} {n:Nat} (hrel:Rel M S0 w0 S β (newsH obs) w) (hvs:VLs S w β (newsH obs) args vs) (hpin:∀k,k<π.n→ObExt (π.β k) (π.H k) (β k) (newsH obs k)) :
 Inv M S0 w0 π (St.mk (args++List.replicate (fn.ntmps-args.length) .undef) obs n 0 false).slots (St.mk (args++List.replicate (fn.ntmps-args.length) .undef) obs n 0 false).H S β {tmps:=vs.toArray++Array.replicate (fn.ntmps-vs.toArray.size) undef,defers:=[]} w:=by
 have hl:=VLs.length _ _ hvs
 refine⟨hrel,?_,fun t => ?_,⟨fun _=>rfl,trivial⟩,hpin⟩
 · simp only[List.length_append,List.length_replicate,Array.size_append,List.size_toArray,Array.size_replicate,hl]
   exact Nat.le_refl _
 · by_cases ht:t<args.length
   · obtain⟨u,g1,g2⟩:=VLs.get _ _ hvs t args[t] (List.getElem?_eq_getElem ht)
     have e1:(args++List.replicate (fn.ntmps-args.length) AV.undef).getD t .undef=args[t]:=by
      simp only[List.getD]
      rw[List.getElem?_append_left ht,List.getElem?_eq_getElem ht]
      rfl
     have e2:(vs.toArray++Array.replicate (fn.ntmps-vs.toArray.size) undef).getD t undef=u:=by
      have:t<vs.length:=by omega
      rw[List.getElem?_eq_getElem this] at g1
      cases g1
      rw[Array.getD_eq_getD_getElem?,Array.getElem?_append_left (show t<vs.length from this)]
      simp[this]
     show VL S w β (newsH obs) ((args++List.replicate (fn.ntmps-args.length) AV.undef).getD t .undef) [(vs.toArray++Array.replicate (fn.ntmps-vs.toArray.size) undef).getD t undef]
     rw[e1,e2]
     exact g2
   · have e1:(args++List.replicate (fn.ntmps-args.length) AV.undef).getD t .undef=.undef:=by
      simp only[List.getD]
      rw[List.getElem?_append_right (by omega),List.getElem?_replicate]
      split<;>rfl
     show VL S w β (newsH obs) ((args++List.replicate (fn.ntmps-args.length) AV.undef).getD t .undef) [(vs.toArray++Array.replicate (fn.ntmps-vs.toArray.size) undef).getD t undef]
     rw[e1]
     exact⟨_,rfl,trivial⟩
theorem endP_of {fn:Func} {R:AV→List Ob→Prop} {RP:Value→List Ob→Prop} {e:Ex} {s:St} (h:endA T fn R e s):endP T fn R RP e s:=by
 cases e with
 | normal=>exact h
 | ret=>exact h
 | exit i=>exact h
 | panic x=>exact h.elim
theorem recs_none {B:Bs}:RecsOk none B:=fun _ _ _ _ _ _ l h=>by cases h
theorem fn_calls (he:EnvOk P env) (hy:env.ycnt=0∧env.isIt=false) (hT:TabOk P T) (hm:P.follows .mixedOrders=true) {g:FuncId} {fn:Func} {c:Code} (hf:P.funcs[g]? = some fn) (hname:(fn.name == "runtime.NumGoroutine")=false) (hb:fn.body=some c) {args:List AV} {v:AV} {news:List Ob}
 (h:fnA T env fn c args fun v' news'=>v'=v∧news'=news):ACalls P g args v news:=by
 refine⟨⟨fn,hf,hname,by rw[hb];rfl⟩,fun S w vs hS hvs => ?_⟩
 refine (callsIn_wide (n:=0)).1 (callsIn_of_wp_marks (F:=Wd none) hf hb trivial ?_)
 have hrel:Rel (fun _=>False) S w S cr0 (newsH []) w:=⟨Fr.refl _ _,fun _ h=>h,fun b hb=>⟨hS b hb,.inl hb⟩,fun k g hk=>(by cases hk),fun k k' g hk=>(by cases hk),fun k=>trivial⟩
 have hi:=start_inv (π:=⟨0,cr0,ob0,false⟩) (fn:=fn) (n:=0) (vs:=vs) hrel hvs (fun k hk=>absurd hk (Nat.not_lt_zero k))
 exact code_sound hT hm c env he none (baseB _ _ _) ⟨0,cr0,ob0,false⟩ (YieldOk.none hy) recs_none (fun h=>by cases h) (fun h=>by cases h) _ _ _ _ S cr0 _ w ⟨_,_,_,⟨rfl,rfl,rfl⟩,hi⟩ rfl h (fun e s S' β' a' w' h1 h2 h3=>end_sound (RP:=fun _ _=>False) hT (fun v' news' S' β' w' u h1 h2 _ h3=>⟨u,rfl,S',β',by rw[←h3.2];exact h1,by rw[←h3.2,←h3.1];exact h2⟩) (fun _ _ _ _ _ _ _ h=>h.elim) e s S' β' a' w' h1 h2 (endP_of h3))
theorem fn_callsR (he:EnvOk P env) (hy:env.ycnt=0∧env.isIt=false) (hT:TabOk P T) (hm:P.follows .mixedOrders=true) {g:FuncId} {fn:Func} {c:Code} (hf:P.funcs[g]? = some fn) (hb:fn.body=some c) {args:List AV} {R:AV→List Ob→Prop}
 (h:fnA T env fn c args R) (S:Nat→Prop) (w:World) (vs:List Value) (hS:∀b,S b→b<w.heap.size) (hvs:VLs S w cr0 ob0 args vs) :
 Calls P g vs.toArray w fun e w'=>∃v news u,R v news∧e=.returned u∧∃S' β',Rel (fun _=>False) S w S' β' (newsH news) w'∧VL S' w' β' (newsH news) v [u]:=by
 refine (callsIn_wide (n:=0)).1 (callsIn_of_wp_marks (F:=Wd none) hf hb trivial ?_)
 have hrel:Rel (fun _=>False) S w S cr0 (newsH []) w:=⟨Fr.refl _ _,fun _ h=>h,fun b hb=>⟨hS b hb,.inl hb⟩,fun k g hk=>(by cases hk),fun k k' g hk=>(by cases hk),fun k=>trivial⟩
 have hi:=start_inv (π:=⟨0,cr0,ob0,false⟩) (fn:=fn) (n:=0) (vs:=vs) hrel hvs (fun k hk=>absurd hk (Nat.not_lt_zero k))
 exact code_sound hT hm c env he none (baseB _ _ _) ⟨0,cr0,ob0,false⟩ (YieldOk.none hy) recs_none (fun h=>by cases h) (fun h=>by cases h) _ _ _ _ S cr0 _ w ⟨_,_,_,⟨rfl,rfl,rfl⟩,hi⟩ rfl h (fun e s S' β' a' w' h1 h2 h3=>end_sound (RP:=fun _ _=>False) hT (fun v' news' S' β' w' u h1 h2 _ h3=>⟨v',news',u,h3,rfl,S',β',h1,h2⟩) (fun _ _ _ _ _ _ _ h=>h.elim) e s S' β' a' w' h1 h2 (endP_of h3))
theorem fn_calls2B (he:EnvOk P env) (hy:env.ycnt=0∧env.isIt=false) (hT:TabOk P T) (hm:P.follows .mixedOrders=true) {g:FuncId} {fn:Func} {c:Code} (hf:P.funcs[g]? = some fn) (hname:(fn.name == "runtime.NumGoroutine")=false) (hb:fn.body=some c) {args:List AV} {obs:List Ob} {v:AV} {obs':List Ob}
 (h:fnB T env fn c args obs fun v' o'=>v'=v∧o'=obs'):ACalls2 P g args obs v obs':=by
 refine⟨⟨fn,hf,hname,by rw[hb];rfl⟩,fun S β w vs hrel hvs => ?_⟩
 refine (callsIn_wide (n:=0)).1 (callsIn_of_wp_marks (F:=Wd none) hf hb trivial ?_)
 have hi:=start_inv (π:=⟨obs.length,β,newsH obs,false⟩) (fn:=fn) (n:=obs.length) (vs:=vs) hrel hvs (fun k _=>ObExt.refl _ _)
 exact code_sound hT hm c env he none (baseB _ _ _) ⟨obs.length,β,newsH obs,false⟩ (YieldOk.none hy) recs_none (fun h=>by cases h) (fun h=>by cases h) _ _ _ _ S β _ w ⟨_,_,_,⟨rfl,rfl,rfl⟩,hi⟩ rfl h (fun e s S' β' a' w' h1 h2 h3=>end_sound (RP:=fun _ _=>False) hT (fun v' news' S' β' w' u h1 h2 hp h3=>⟨u,rfl,S',β',by rw[←h3.2];exact h1,by rw[←h3.2,←h3.1];exact h2,by rw[←h3.2];exact hp⟩) (fun _ _ _ _ _ _ _ h=>h.elim) e s S' β' a' w' h1 h2 (endP_of h3))
theorem VLs.any {β':Nat→Cr} {H':Nat→Ob}:∀(l:List AV) (vs:List Value),l.flatMap AV.refs=[]→VLs S w β H l vs→VLs S w β' H' l vs:=by
 have one:∀(x:AV) (vs:List Value),x.refs=[]→VL S w β H x vs→VL S w β' H' x vs:=by
  intro x
  induction x with
  | agg c ih=>rintro vs h ⟨cs,e,hc⟩;exact⟨cs,e,ih _ h hc⟩
  | tuple c ih=>rintro vs h ⟨cs,e,hc⟩;exact⟨cs,e,ih _ h hc⟩
  | fn f a c ih1 ih2=>
   rintro vs h ⟨p,q,e,h1,h2⟩
   simp only[AV.refs,List.append_eq_nil_iff] at h
   exact⟨p,q,e,ih1 _ h.1 h1,ih2 _ h.2 h2⟩
  | iface t v ih=>rintro vs h ⟨v,e,h1⟩;exact⟨v,e,ih _ h h1⟩
  | cons a b ih1 ih2=>
   rintro vs h ⟨v,r,e,h1,h2⟩
   simp only[AV.refs,List.append_eq_nil_iff] at h
   exact⟨v,r,e,ih1 _ h.1 h1,ih2 _ h.2 h2⟩
  | ptr k off=>intro vs h;simp[AV.refs] at h
  | row k=>intro vs h;simp[AV.refs] at h
  | rptr k i off=>intro vs h;simp[AV.refs] at h
  | view k lo n e t=>intro vs h;simp[AV.refs] at h
  | prow k=>intro vs h;simp[AV.refs] at h
  | pptr k i=>intro vs h;simp[AV.refs] at h
  | mp k=>intro vs h;simp[AV.refs] at h
  | itr k=>intro vs h;simp[AV.refs] at h
  | _=>intro vs _ h;exact h
 intro l
 induction l with
 | nil=>intro vs _ h;exact h
 | cons x l ih=>
  rintro vs h ⟨v,r,e,h1,h2⟩
  rw[List.flatMap_cons,List.append_eq_nil_iff] at h
  exact⟨v,r,e,one x [v] h.1 h1,ih r h.2 h2⟩
def iterB (J:Guest) (S:Nat→Prop) (β:Nat→Cr) (obs:List Ob) (W:Nat→Prop) (w:World):Bs:=fun i st M0 S0 w0=>∃X' W',J i st X' W' w0∧(∀b,X' b→b<w0.heap.size∧¬M0 b)∧(∀b,W' b→X' b∧¬S0 b)∧(∀b,W' b→W b∨w.heap.size≤b)∧Fr (fun b=>W b∨Mof β obs b) w w0∧(∀b,M0 b→Mof β obs b∨w.heap.size≤b)∧(∀b,S0 b→S b∨w.heap.size≤b)
theorem iter_dlg {l cnt:Nat} {arg:Nat→List AV} {J:Guest} {obs:List Ob} {W:Nat→Prop} (hJs:J.stays) (hJr:J.rounds P l cnt arg S w.heap.size) (hr:π.r=true):DlgOk P (env.it l cnt arg) (iterB J S β obs W w) π:=by
 refine fun _=>⟨hr,?_⟩
 rintro y M S0 w0 sl H S1 β1 a w1 g args caps obs' β' cnt' arg' vs cs ⟨X',W',j1,j2,j3,j4,j5,j6,j7⟩ hi hA hcnt harg hrel hvs hcs hMo
 have hcnt:y+cnt'=cnt:=hcnt
 have hj:=hJs _ _ _ _ _ w1 j1 hi.rel.fr.os hi.rel.fr.tape hi.rel.fr.output hi.rel.fr.size (fun g hg=>hi.rel.fr.block g (j2 g hg).1 (j2 g hg).2)
 have hz:=hi.rel.fr.size
 have hzw:=j5.size
 have hSW:∀b,S1 b→b<w1.heap.size∧¬W' b∧(S b∨w.heap.size≤b):=by
  intro b hb
  refine⟨(hi.rel.sS b hb).1,fun hw => ?_,?_⟩
  · rcases (hi.rel.sS b hb).2 with h | h
    · exact (j3 b hw).2 h
    · have:=(j2 b (j3 b hw).1).1;omega
  · rcases (hi.rel.sS b hb).2 with h | h
    · exact j7 b h
    · exact .inr (by omega)
 have hno:∀b,ownB β1 H b→¬X' b:=by
  rintro b ⟨k,hl,hg⟩ hx
  rcases (hi.rel.own k b hl hg).1 with h | h
  · exact (j2 b hx).2 h
  · have:=(j2 b hx).1;omega
 let J':Guest:=fun i st X2 W2 w2=>J (y+i) st X2 W2 w2∧(∀b,X2 b→b<w2.heap.size)∧(∀b,W2 b→X2 b∧(W' b∨w1.heap.size≤b))
 have hJ1:J'.stays:=by
  rintro i b X W wa wb ⟨h1,h2,h3⟩ e1 e2 e3 hz hX
  exact⟨hJs _ _ _ _ _ _ h1 e1 e2 e3 hz hX,fun b hb=>by have:=h2 b hb;omega,h3⟩
 have hJ2:J'.rounds P l cnt' arg' S1 w1.heap.size:=by
  rintro i X W2 S2 wa us hlt ⟨h1,h2,h3⟩ hsz hus hS2
  obtain⟨f,tmps,asg,bod,y1,y2⟩:=hJr (y+i) X W2 S2 wa us (by omega) h1 (by omega) (by have:=harg i hlt;rw[this] at hus;exact hus) (fun b hb=>⟨(hS2 b hb).1,(hS2 b hb).2.1,by
   rcases (hS2 b hb).2.2 with h | h
   · exact (hSW b h).2.2
   · exact .inr (by omega)⟩)
  refine⟨f,tmps,asg,bod,y1,y2.mono ?_⟩
  rintro e w2 ⟨b,X2,W3,rfl,g1,g2,g3,g4⟩
  exact⟨b,X2,W3,rfl,⟨g1,fun b hb=>(g4 b hb).2,fun b hb=>⟨(g3 b hb).1,by
   rcases (g3 b hb).2 with h | h
   · exact (h3 b h).2
   · exact .inr (by omega)⟩⟩,g2,g3,g4⟩
 refine Calls.mono (hA.run S1 β' w1 vs cs l J' X' W' hrel hvs hcs hJ1 hJ2 ⟨hj,fun b hb=>by have:=(j2 b hb).1;omega,fun b hb=>⟨(j3 b hb).1,.inl hb⟩⟩ (fun b hb=>⟨by have:=(j2 b hb).1;omega,fun hm=>hno b (hMo b hm) hb⟩) (fun b hb=>⟨(j3 b hb).1,fun hs=>(hSW b hs).2.1 hb⟩)) ?_
 rintro e w2 ⟨u,i,st,X2,W2,rfl,⟨g1,g2,g3⟩,hor,hfr⟩
 have hz2:=hfr.size
 refine⟨u,rfl,i,st,hor,fun _=>False,fun _=>False,fun _=>False,w2,⟨X2,W2,g1,fun b hb=>⟨g2 b hb,fun h=>h⟩,fun b hb=>⟨(g3 b hb).1,fun h=>h⟩,fun b hb => ?_,?_,fun b h=>h.elim,fun b h=>h.elim⟩,fun H' hH'=>⟨Fr.refl _ _,fun b h=>h.elim,fun b h=>h.elim,fun k g hl=>(by rw[hH' k] at hl;cases hl),fun k k' g hl=>(by rw[hH' k] at hl;cases hl),fun k=>ObR.idle (hH' k)⟩⟩
 · rcases (g3 b hb).2 with h | h
   · exact j4 b h
   · exact .inr (by omega)
 · refine⟨hfr.os.trans (hi.rel.fr.os.trans j5.os),hfr.tape.trans (hi.rel.fr.tape.trans j5.tape),hfr.output.trans (hi.rel.fr.output.trans j5.output),by omega,fun b hb hn => ?_,Nat.le_trans j5.drawn (Nat.le_trans hi.rel.fr.drawn hfr.drawn)⟩
   rw[hfr.block b (by omega) (fun hw => ?_),hi.rel.fr.block b (by omega) (fun hm => ?_),j5.block b hb hn]
   · rcases j6 b hm with h | h
     · exact hn (.inr h)
     · omega
   · rcases hw with hw | hw
     · rcases j4 b hw with h | h
       · exact hn (.inl h)
       · omega
     · obtain⟨k,hl,hg'⟩:=hMo b hw
       rcases (hi.rel.own k b hl hg').1 with h | h
       · rcases j6 b h with h | h
         · exact hn (.inr h)
         · omega
       · omega
theorem fn_iter (he:EnvOk P env) (hT:TabOk P T) (hm:P.follows .mixedOrders=true) {g:FuncId} {fn:Func} {c:Code} (hf:P.funcs[g]? = some fn) (hname:(fn.name == "runtime.NumGoroutine")=false) (hb:fn.body=some c) {args caps:List AV} {obs:List Ob} {cnt:Nat} {arg:Nat→List AV}
 (h:∀l,fnI T env fn c args caps obs l cnt arg):AIter P g args caps obs cnt arg:=by
 refine⟨⟨fn,hf,hname,by rw[hb];rfl⟩,fun S β w vs cs l J X W hrel hvs hcs hJs hJr hJ0 hX hW => ?_⟩
 refine (callsIn_wide (n:=0)).1 (callsIn_of_wp_marks (F:=Wd none) hf hb trivial ?_)
 have hva:VLs S w β (newsH obs) (args++[.fn (.yield l) .nl .nl]++caps) (vs++[Value.func (.yield l) #[] #[]]++cs):=VLs.append _ _ _ _ (VLs.append _ _ _ _ hvs ⟨_,_,rfl,⟨[],[],rfl,rfl,rfl⟩,rfl⟩) hcs
 have hi:=start_inv (π:=⟨obs.length,β,newsH obs,true⟩) (fn:=fn) (n:=obs.length) hrel hva (fun k _=>ObExt.refl _ _)
 let B:Bs:=fun i st M0 S0 w0=>∃X' W',J i st X' W' w0∧(∀b,X' b→b<w0.heap.size∧¬M0 b)∧(∀b,W' b→X' b∧¬S0 b)∧(∀b,W' b→W b∨w.heap.size≤b)∧Fr (fun b=>W b∨Mof β obs b) w w0∧(∀b,M0 b→Mof β obs b∨w.heap.size≤b)∧(∀b,S0 b→S b∨w.heap.size≤b)
 have he':EnvOk P (env.it l cnt arg):=⟨he.one,he.two,he.pan,he.iter⟩
 have hY1:Yield1 P (env.it l cnt arg) B ⟨obs.length,β,newsH obs,true⟩:=by
  rintro y M0 S0 w0 sl H S1 β1 a w1 us ⟨X',W',j1,j2,j3,j4,j5,j6,j7⟩ hi hlt hus hrefs
  have hj:=hJs _ _ _ _ _ w1 j1 hi.rel.fr.os hi.rel.fr.tape hi.rel.fr.output hi.rel.fr.size (fun g hg=>hi.rel.fr.block g (j2 g hg).1 (j2 g hg).2)
  have hz:=hi.rel.fr.size
  have hzw:=j5.size
  have hSW:∀b,S1 b→b<w1.heap.size∧¬W' b∧(S b∨w.heap.size≤b):=by
   intro b hb
   refine⟨(hi.rel.sS b hb).1,fun hw => ?_,?_⟩
   · rcases (hi.rel.sS b hb).2 with h | h
     · exact (j3 b hw).2 h
     · have:=(j2 b (j3 b hw).1).1;omega
   · rcases (hi.rel.sS b hb).2 with h | h
     · exact j7 b h
     · exact .inr (by omega)
  obtain⟨f,tmps,asg,bod,y1,y2⟩:=hJr y X' W' S1 w1 us hlt hj (by omega) (VLs.any _ _ hrefs hus) hSW
  refine⟨f,tmps,asg,bod,y1,y2.mono ?_⟩
  rintro e w2 ⟨b,X2,W2,rfl,g1,g2,g3,g4⟩
  have hz2:=g2.size
  have hno:∀b,ownB β1 H b→¬X' b:=by
   rintro b ⟨k,hl,hg⟩ hx
   rcases (hi.rel.own k b hl hg).1 with h | h
   · exact (j2 b hx).2 h
   · have:=(j2 b hx).1;omega
  obtain⟨r1,r2⟩:=hi.rel.rebase (w':=w2) hz2 (fun b hb=>g2.block b (hSW b hb).1 (hSW b hb).2.1) (fun b hb=>g2.block b (by obtain⟨k,hl,hg⟩:=hb;exact (hi.rel.own k b hl hg).2.1) (fun hw=>hno b hb (j3 b hw).1))
  refine⟨b,rfl,ownB β1 H,S1,w2,⟨X2,W2,g1,fun g hg=>⟨(g4 g hg).2,fun ho => ?_⟩,fun g hg=>⟨(g3 g hg).1,fun hs => ?_⟩,fun g hg => ?_,?_,fun g hg => ?_,fun g hg=>(hSW g hg).2.2⟩,⟨r1,hi.len,fun t=>VL.ext r2 _ _ (hi.sl t),⟨hi.nod.1,by rw[hi.nod.1 rfl];trivial⟩,hi.pin⟩⟩
  · rcases (g4 g hg).1 with h | h | h
    · exact hno g ho h
    · obtain⟨k,hl,hg⟩:=ho
      exact (hi.rel.own k g hl hg).2.2 h
    · obtain⟨k,hl,hg⟩:=ho
      have:=(hi.rel.own k g hl hg).2.1;omega
  · rcases (g3 g hg).2 with h | h
    · exact (hSW g hs).2.1 h
    · have:=(hSW g hs).1;omega
  · rcases (g3 g hg).2 with h | h
    · exact j4 g h
    · exact .inr (by omega)
  · refine⟨g2.os.trans (hi.rel.fr.os.trans j5.os),g2.tape.trans (hi.rel.fr.tape.trans j5.tape),g2.output.trans (hi.rel.fr.output.trans j5.output),by omega,fun b hb hn => ?_,Nat.le_trans j5.drawn (Nat.le_trans hi.rel.fr.drawn g2.drawn)⟩
    rw[g2.block b (by omega) (fun hw => ?_),hi.rel.fr.block b (by omega) (fun hm => ?_),j5.block b hb hn]
    · rcases j6 b hm with h | h
      · exact hn (.inr h)
      · omega
    · rcases j4 b hw with h | h
      · exact hn (.inl h)
      · omega
  · obtain⟨k,hl,hg'⟩:=hg
    rcases (hi.rel.own k g hl hg').1 with h | h
    · exact j6 g h
    · exact .inr (by omega)
 have hY:YieldOk P (env.it l cnt arg) B ⟨obs.length,β,newsH obs,true⟩:=⟨hY1,iter_dlg (S:=S) (w:=w) hJs hJr rfl⟩
 refine code_sound hT hm c (env.it l cnt arg) he' none B ⟨obs.length,β,newsH obs,true⟩ hY recs_none (fun _=>.inr rfl) (fun h=>by cases h) _ _ _ _ S β _ w ⟨_,_,_,⟨X,W,hJ0,hX,hW,fun b hb=>.inl hb,Fr.refl _ _,fun b hb=>.inl hb,fun b hb=>.inl hb⟩,hi⟩ rfl (h l) ?_
 have key:∀(s:St) (S1:Nat→Prop) (β1:Nat→Cr) (a:Act) (w1:World),InvB B ⟨obs.length,β,newsH obs,true⟩ s S1 β1 a w1→(resA T s fn.results.toList).isSome=true∧(s.stop=true∨s.y=cnt)→LeavesInM (Wd none) 0 P fn a.tmps (fun e w'=>∃u i st X' W',e=.returned u∧J i st X' W' w'∧(st=true∨i=cnt)∧Fr (fun b=>W b∨Mof β obs b) w w') a.defers .returning w1:=by
  rintro s S1 β1 a w1 ⟨M0,S0,w0,⟨X',W',j1,j2,j3,j4,j5,j6,j7⟩,hi⟩ ⟨hr,hst⟩
  rw[hi.nod.1 rfl]
  obtain⟨vs',hvs'⟩:=Option.isSome_iff_exists.1 hr
  obtain⟨us,h1,h2⟩:=res_of hT hi fn.results.toList vs' hvs'
  obtain⟨u,hu⟩:∃u,(results fn a.tmps).run P w1=.ok u w1:=⟨if h:us.toArray.size=1 then us.toArray[0] else .tuple us.toArray,by
   rw[results_eq,Array.mapM_eq_mapM_toList]
   simp only[map_eq_pure_bind,bind_assoc,pure_bind,Sem.run_bind,h1,Result.andThen_ok,Sem.run_pure]⟩
  refine⟨u,hu,u,s.y,s.stop,X',W',rfl,hJs _ _ _ _ _ w1 j1 hi.rel.fr.os hi.rel.fr.tape hi.rel.fr.output hi.rel.fr.size (fun g hg=>hi.rel.fr.block g (j2 g hg).1 (j2 g hg).2),hst,?_⟩
  · have hz:=hi.rel.fr.size
    have hzw:=j5.size
    refine⟨hi.rel.fr.os.trans j5.os,hi.rel.fr.tape.trans j5.tape,hi.rel.fr.output.trans j5.output,by omega,fun b hb hn => ?_,Nat.le_trans j5.drawn hi.rel.fr.drawn⟩
    rw[hi.rel.fr.block b (by omega) (fun hm => ?_),j5.block b hb hn]
    rcases j6 b hm with h | h
    · exact hn (.inr h)
    · omega
 rintro e s S1 β1 a w1 hi hn hh
 cases e with
 | exit i=>exact hh.elim
 | panic x=>exact hh.elim
 | normal=>exact key s S1 β1 a w1 hi hh
 | ret=>exact key s S1 β1 a w1 hi hh
end
end Go.Proofs.YtkpjcmiijlpcaaaGreat.Aw
namespace Go.Proofs.YtkpjcmiijlpcaaaGreat.Aw
open Go
def tyOf (P:Program):Nat→TypeId→Option Ty
 | 0,_=>none
 | f+1,t=>match P.underlying t with
  | some (.int k)=>some (.int k)
  | some .bool=>some .bool
  | some .string=>some .str
  | some (.slice e)=>(tyOf P f e).map (.list e)
  | some (.array n e)=>(tyOf P f e).bind fun x=>(List.replicate n x).foldr (fun a b=>match b with
   | none=>some a
   | some b=>some (.pair a b)) none
  | some (.struct fs)=>bif fs.size==0 then some .unit else fs.toList.foldr (fun a b=>match tyOf P f a.type,b with
   | some a,some none=>some (some a)
   | some a,some (some b)=>some (some (.pair a b))
   | _,_=>none) (some none) |>.bind fun x=>x
  | _=>none
def zeroT (P:Program):Nat→TypeId→List AV
 | 0,_=>[.undef]
 | f+1,t=>match P.underlying t with
  | some (.int k)=>[.int k 0]
  | some .bool=>[.bool false]
  | some .string=>[.str ⟨#[]⟩]
  | some (.slice e)=>match tyOf P f e with
   | some x=>[.nils e x]
   | none=>[.nil0]
  | some (.array n e)=>(List.replicate n (zeroT P f e)).flatten
  | some (.struct fs)=>fs.toList.flatMap fun a=>zeroT P f a.type
  | some (.func _ _ _)=>[.nilf]
  | some (.pointer _)=>[.nilp]
  | some (.interface _)=>[.nili]
  | _=>[.undef]
def zeroOk:List AV→List Value→Bool
 | [],[]=>true
 | .int k n::l,.int k' n'::m=>k==k'&&n==n'&&zeroOk l m
 | .bool b::l,.bool b'::m=>b==b'&&zeroOk l m
 | .str s::l,.string s'::m=>decide (s=s')&&zeroOk l m
 | .nilp::l,.pointer none::m=>zeroOk l m
 | .nilf::l,.nilFunc::m=>zeroOk l m
 | .nili::l,.nilIface::m=>zeroOk l m
 | .nil0::l,.slice none 0 0::m=>zeroOk l m
 | .nils _ _::l,.slice none 0 0::m=>zeroOk l m
 | .undef::l,_::m=>zeroOk l m
 | _,_=>false
def eqOk (P:Program) (t:TypeId):Bool:=P.keyTypeAt 12 t && !P.eqGuardType P.depth t
theorem eqOk_spec {P:Program} {t:TypeId} (h:eqOk P t=true):P.keyTypeAt 12 t=true∧P.eqGuardType P.depth t=false:=by
 simpa [eqOk] using h
def tiOf (P:Program) (t:TypeId):TI:=match P.info? t with
 | none=>TI.unk
 | some f=>match f.zero with
  | none=>TI.unk
  | some z=>
   let zs:=zeroT P 20 t
   bif zeroOk zs z.cells.toList&&(zs.length==f.size) then
    match P.underlying t with
    | some (.slice e)=>⟨.slice e,f.size,f.bytes,zs,tyOf P 20 t,eqOk P t⟩
    | some (.struct fs)=>bif fs.toList.all fun a=>(P.info? a.type).isSome then ⟨.struct (fs.toList.map fun a=>(a.offset,a.type)),f.size,f.bytes,zs,tyOf P 20 t,eqOk P t⟩ else TI.unk
    | some (.array n e)=>bif (P.info? e).isSome then ⟨.array n e,f.size,f.bytes,zs,tyOf P 20 t,eqOk P t⟩ else TI.unk
    | some (.int k)=>⟨.scalar,f.size,f.bytes,zs,some (.int k),eqOk P t⟩
    | some .bool=>⟨.scalar,f.size,f.bytes,zs,some .bool,eqOk P t⟩
    | some .string=>⟨.scalar,f.size,f.bytes,zs,some .str,eqOk P t⟩
    | some (.map k e)=>match P.underlying k with
     | some (.int .i64)=>bif zeroShape P e then ⟨.map k e,f.size,f.bytes,zs,none,eqOk P t⟩ else TI.unk
     | _=>TI.unk
    | some (.func _ _ _)=>⟨.scalar,f.size,f.bytes,zs,none,eqOk P t⟩
    | some (.pointer _)=>⟨.scalar,f.size,f.bytes,zs,none,eqOk P t⟩
    | some (.interface _)=>⟨.scalar,f.size,f.bytes,zs,none,eqOk P t⟩
    | _=>TI.unk
   else TI.unk
def tabOf (P:Program) (ts:List TypeId):Tab:=ts.map fun t=>(t,tiOf P t)
theorem zeroOk_spec:∀(l:List AV) (m:List Value),zeroOk l m=true→∀S w β H,VLs S w β H l m:=by
 intro l m h S w β H
 fun_induction zeroOk l m<;>try simp only[Bool.and_eq_true,beq_iff_eq,decide_eq_true_eq] at h
 · exact rfl
 · rename_i ih;exact⟨_,_,rfl,⟨_,rfl,by rw[h.1.1,h.1.2];exact rfl⟩,ih h.2⟩
 · rename_i ih;exact⟨_,_,rfl,⟨_,rfl,by rw[h.1];exact rfl⟩,ih h.2⟩
 · rename_i ih;exact⟨_,_,rfl,⟨_,rfl,by rw[h.1];exact rfl⟩,ih h.2⟩
 · rename_i ih;exact⟨_,_,rfl,⟨_,rfl,rfl⟩,ih h⟩
 · rename_i ih;exact⟨_,_,rfl,⟨_,rfl,rfl⟩,ih h⟩
 · rename_i ih;exact⟨_,_,rfl,⟨_,rfl,rfl⟩,ih h⟩
 · rename_i ih;exact⟨_,_,rfl,⟨_,rfl,rfl⟩,ih h⟩
 · rename_i ih;exact⟨_,_,rfl,⟨_,rfl,rfl⟩,ih h⟩
 · rename_i ih;exact⟨_,_,rfl,⟨_,rfl,trivial⟩,ih h⟩
 · cases h
theorem tiOf_ok (P:Program) (t:TypeId) (hk:(tiOf P t).d≠.unk):TIok P t (tiOf P t):=by
 unfold tiOf at hk ⊢
 cases hf:P.info? t with
 | none=>simp only[hf] at hk;exact absurd rfl hk
 | some f=>
  simp only[hf] at hk ⊢
  cases hz:f.zero with
  | none=>simp only[hz] at hk;exact absurd rfl hk
  | some z=>
   simp only[hz] at hk ⊢
   cases hc:(zeroOk (zeroT P 20 t) z.cells.toList&&((zeroT P 20 t).length==f.size)) with
   | false=>simp only[hc,cond_false] at hk;exact absurd rfl hk
   | true=>
    simp only[hc,cond_true] at hk ⊢
    simp only[Bool.and_eq_true,beq_iff_eq] at hc
    have hzs:=zeroOk_spec _ _ hc.1
    cases hu:P.underlying t with
    | none=>simp only[hu] at hk;exact absurd rfl hk
    | some d=>
     simp only[hu] at hk ⊢
     cases d<;>simp only at hk ⊢ <;> try exact absurd rfl hk
     case slice e=>exact⟨⟨f,hf,rfl,rfl,z,hz,hzs⟩,hc.2,hu,eqOk_spec⟩
     case bool=>exact⟨⟨f,hf,rfl,rfl,z,hz,hzs⟩,hc.2,⟨_,hu,rfl,fun k h=>by simp at h,fun _=>rfl,fun h=>by simp at h,fun h=>by simp[zeroT,hu] at h⟩,eqOk_spec⟩
     case int k=>exact⟨⟨f,hf,rfl,rfl,z,hz,hzs⟩,hc.2,⟨_,hu,rfl,fun k h=>by simp at h;rw[h],fun h=>by simp at h,fun h=>by simp at h,fun h=>by simp[zeroT,hu] at h⟩,eqOk_spec⟩
     case string=>exact⟨⟨f,hf,rfl,rfl,z,hz,hzs⟩,hc.2,⟨_,hu,rfl,fun k h=>by simp at h,fun h=>by simp at h,fun _=>rfl,fun h=>by simp[zeroT,hu] at h⟩,eqOk_spec⟩
     case func=>exact⟨⟨f,hf,rfl,rfl,z,hz,hzs⟩,hc.2,⟨_,hu,rfl,fun k h=>by simp at h,fun h=>by simp at h,fun h=>by simp at h,fun h=>by simp[zeroT,hu] at h⟩,eqOk_spec⟩
     case pointer=>exact⟨⟨f,hf,rfl,rfl,z,hz,hzs⟩,hc.2,⟨_,hu,rfl,fun k h=>by simp at h,fun h=>by simp at h,fun h=>by simp at h,fun _=>⟨_,rfl⟩⟩,eqOk_spec⟩
     case interface=>exact⟨⟨f,hf,rfl,rfl,z,hz,hzs⟩,hc.2,⟨_,hu,rfl,fun k h=>by simp at h,fun h=>by simp at h,fun h=>by simp at h,fun h=>by simp[zeroT,hu] at h⟩,eqOk_spec⟩
     case map k e=>
      split at hk
      · rename_i hki
        cases hzs2:zeroShape P e with
        | false=>rw[hzs2] at hk;exact absurd rfl hk
        | true=>simp only[hki,hzs2,cond_true];exact⟨⟨f,hf,rfl,rfl,z,hz,hzs⟩,hc.2,⟨hu,hki,hzs2⟩,eqOk_spec⟩
      · exact absurd rfl hk
     case struct fs=>
      cases hall:fs.toList.all fun a=>(P.info? a.type).isSome with
      | false=>rw[hall] at hk;exact absurd rfl hk
      | true=>exact⟨⟨f,hf,rfl,rfl,z,hz,hzs⟩,hc.2,⟨fs,hu,rfl,fun g hg=>List.all_eq_true.1 hall g hg⟩,eqOk_spec⟩
     case array n e=>
      cases he:(P.info? e).isSome with
      | false=>rw[he] at hk;exact absurd rfl hk
      | true=>exact⟨⟨f,hf,rfl,rfl,z,hz,hzs⟩,hc.2,⟨hu,he⟩,eqOk_spec⟩
theorem lookup_tab (P:Program) (t:TypeId):∀ts:List TypeId,(tabOf P ts).lookup t=none∨(tabOf P ts).lookup t=some (tiOf P t)
 | []=>.inl rfl
 | x::ts=>by
  simp only[tabOf,List.map_cons,List.lookup]
  cases e:t==x with
  | true=>have e:t=x:=by simpa using e
          subst e;exact .inr rfl
  | false=>exact lookup_tab P t ts
theorem tabOf_ok (P:Program) (ts:List TypeId):TabOk P (tabOf P ts):=by
 intro t hk
 unfold Tab.at_ at hk ⊢
 rcases lookup_tab P t ts with h | h
 · rw[h] at hk;exact absurd rfl hk
 · rw[h] at hk ⊢;exact tiOf_ok P t hk
end Go.Proofs.YtkpjcmiijlpcaaaGreat.Aw
namespace Go.Proofs.YtkpjcmiijlpcaaaGreat.Aw
open Go
abbrev Cons:=List (FuncId×(List AV→Option Tells))
abbrev Cons2:=List (FuncId×(List AV→List Ob→Option Tells2))
def oneOf_:Cons→FuncId→List AV→Option Tells
 | [],_,_=>none
 | (g,f)::l,g',args=>bif Nat.beq g g' then (match f args with
  | some t=>some t
  | none=>oneOf_ l g' args) else oneOf_ l g' args
def twoOf_:Cons2→FuncId→List AV→List Ob→Option Tells2
 | [],_,_,_=>none
 | (g,f)::l,g',args,obs=>bif Nat.beq g g' then (match f args obs with
  | some t=>some t
  | none=>twoOf_ l g' args obs) else twoOf_ l g' args obs
abbrev Cons3:=List (FuncId×(List AV→List Ob→Option TellsP))
abbrev Cons4:=List (FuncId×(List AV→List AV→List Ob→Option TellsI))
def panOf_:Cons3→FuncId→Option (List AV→List Ob→Option TellsP)
 | [],_=>none
 | (g,f)::l,g'=>bif Nat.beq g g' then some f else panOf_ l g'
def iterOf_:Cons4→FuncId→List AV→List AV→List Ob→Option TellsI
 | [],_,_,_,_=>none
 | (g,f)::l,g',args,caps,obs=>bif Nat.beq g g' then (match f args caps obs with
  | some t=>some t
  | none=>iterOf_ l g' args caps obs) else iterOf_ l g' args caps obs
def envOf4 (l:Cons) (m:Cons2) (p:Cons3) (i:Cons4):Env:=⟨oneOf_ l,twoOf_ m,panOf_ p,iterOf_ i,false,0,0,fun _=>[],[],[],[]⟩
def ConOk (P:Program) (c:FuncId×(List AV→Option Tells)):Prop:=∀args t,c.2 args=some t→(∀p∈t.pre,p)→ACalls P c.1 args t.v t.news
def ConOk2 (P:Program) (c:FuncId×(List AV→List Ob→Option Tells2)):Prop:=∀args obs t,c.2 args obs=some t→(∀p∈t.pre,p)→ACalls2 P c.1 args obs t.v (finObs obs t.olds t.news)
def ConOk3 (P:Program) (c:FuncId×(List AV→List Ob→Option TellsP)):Prop:=∀args obs t,c.2 args obs=some t→(∀p∈t.pre,p)→(t.b=false→ACalls2 P c.1 args obs t.v (finObs obs t.olds t.news))∧(t.b=true→ACalls2 P c.1 args obs .undef (finObs obs t.olds t.news) (some t.x))
def ConOk4 (P:Program) (c:FuncId×(List AV→List AV→List Ob→Option TellsI)):Prop:=∀args caps obs t,c.2 args caps obs=some t→(∀p∈t.pre,p)→AIter P c.1 args caps obs t.cnt t.arg
theorem panOf_ok {P:Program}:∀l:Cons3,(∀c∈l,ConOk3 P c)→∀g f args obs t,panOf_ l g=some f→f args obs=some t→(∀p∈t.pre,p)→(t.b=false→ACalls2 P g args obs t.v (finObs obs t.olds t.news))∧(t.b=true→ACalls2 P g args obs .undef (finObs obs t.olds t.news) (some t.x))
 | [],_=>fun g f args obs t h _ _=>by cases h
 | (g,f)::l,hl=>fun g' f' args obs t h ht hp=>by
  simp only[panOf_] at h
  cases e:Nat.beq g g' with
  | true=>
   rw[e] at h
   have e':g=g':=Nat.eq_of_beq_eq_true e
   subst e'
   cases h
   exact hl (g,f) (by simp) args obs t ht hp
  | false=>
   rw[e] at h
   exact panOf_ok l (fun c hc=>hl c (by simp[hc])) g' f' args obs t h ht hp
theorem iterOf_ok {P:Program}:∀l:Cons4,(∀c∈l,ConOk4 P c)→∀g args caps obs t,iterOf_ l g args caps obs=some t→(∀p∈t.pre,p)→AIter P g args caps obs t.cnt t.arg
 | [],_=>fun g args caps obs t h _=>by cases h
 | (g,f)::l,hl=>fun g' args caps obs t h hp=>by
  simp only[iterOf_] at h
  cases e:Nat.beq g g' with
  | true=>
   rw[e] at h
   have e':g=g':=Nat.eq_of_beq_eq_true e
   subst e'
   simp only[cond_true] at h
   split at h
   · rename_i t' ht
     cases h
     exact hl (g,f) (by simp) args caps obs t ht hp
   · exact iterOf_ok l (fun c hc=>hl c (by simp[hc])) g args caps obs t h hp
  | false=>
   rw[e] at h
   exact iterOf_ok l (fun c hc=>hl c (by simp[hc])) g' args caps obs t h hp
theorem oneOf_ok {P:Program}:∀l:Cons,(∀c∈l,ConOk P c)→∀g args t,oneOf_ l g args=some t→(∀p∈t.pre,p)→ACalls P g args t.v t.news
 | [],_=>fun g args t h _=>by cases h
 | (g,f)::l,hl=>fun g' args t h hp=>by
  simp only[oneOf_] at h
  cases e:Nat.beq g g' with
  | true=>
   rw[e] at h
   have e':g=g':=Nat.eq_of_beq_eq_true e
   subst e'
   simp only[cond_true] at h
   split at h
   · rename_i t' ht
     cases h
     exact hl (g,f) (by simp) args t ht hp
   · exact oneOf_ok l (fun c hc=>hl c (by simp[hc])) g args t h hp
  | false=>
   rw[e] at h
   exact oneOf_ok l (fun c hc=>hl c (by simp[hc])) g' args t h hp
theorem twoOf_ok {P:Program}:∀l:Cons2,(∀c∈l,ConOk2 P c)→∀g args obs t,twoOf_ l g args obs=some t→(∀p∈t.pre,p)→ACalls2 P g args obs t.v (finObs obs t.olds t.news)
 | [],_=>fun g args obs t h _=>by cases h
 | (g,f)::l,hl=>fun g' args obs t h hp=>by
  simp only[twoOf_] at h
  cases e:Nat.beq g g' with
  | true=>
   rw[e] at h
   have e':g=g':=Nat.eq_of_beq_eq_true e
   subst e'
   simp only[cond_true] at h
   split at h
   · rename_i t' ht
     cases h
     exact hl (g,f) (by simp) args obs t ht hp
   · exact twoOf_ok l (fun c hc=>hl c (by simp[hc])) g args obs t h hp
  | false=>
   rw[e] at h
   exact twoOf_ok l (fun c hc=>hl c (by simp[hc])) g' args obs t h hp
theorem envOf4_ok {P:Program} (l:Cons) (m:Cons2) (p:Cons3) (i:Cons4) (hl:∀c∈l,ConOk P c) (hm:∀c∈m,ConOk2 P c) (hp:∀c∈p,ConOk3 P c) (hi:∀c∈i,ConOk4 P c):EnvOk P (envOf4 l m p i):=⟨oneOf_ok l hl,twoOf_ok m hm,panOf_ok p hp,iterOf_ok i hi⟩
theorem all_nil {α:Type} {p:α→Prop}:∀c∈([]:List α),p c:=by simp
theorem all_cons {α:Type} {p:α→Prop} {c:α} {l:List α} (hc:p c) (hl:∀c∈l,p c):∀d∈c::l,p d:=by
 intro d hd
 rcases List.mem_cons.1 hd with rfl | hd
 · exact hc
 · exact hl d hd
theorem loop_intro {live:List Nat} {body:St→(Ex→St→Prop)→Prop} {s:St} {Q:Ex→St→Prop} (I:Nat→St→Prop) (n:Nat) (h0:I n s)
 (h:∀n s,I n s→body s (thenA (fun s'=>(fun t=>∃m,m<n∧I m t) (s'.tidy live)) Q)):loopT live body s Q:=⟨I,n,h0,h⟩
theorem range_intro {live:List Nat} {run:Nat→St→(Ex→St→Prop)→Prop} {cnt:Nat} {s:St} {Q:Ex→St→Prop} (I:Nat→St→Prop) (h0:I 0 s)
 (h1:∀i t,i<cnt→I i t→run i t (roundK live I Q i t)) (h2:∀t,I cnt t→Q .normal t):rangeT live run cnt s Q:=⟨I,h0,h1,h2⟩
theorem fn_ok {P:Program} {T:Tab} {env:Env} (he:EnvOk P env) (hT:TabOk P T) (hm:P.follows .mixedOrders=true) {g:FuncId} {fn:Func} (hf:P.funcs[g]? = some fn) (hname:(fn.name == "runtime.NumGoroutine")=false) (hb:fn.body.isSome=true) {args:List AV} {v:AV} {news:List Ob}
 (h:fnA T env fn (bodyOf fn) args fun v' news'=>v'=v∧news'=news) (hy:env.ycnt=0∧env.isIt=false:=by exact⟨rfl,rfl⟩):ACalls P g args v news:=by
 obtain⟨c,hc⟩:=Option.isSome_iff_exists.1 hb
 have e:bodyOf fn=c:=by unfold bodyOf;rw[hc];rfl
 rw[e] at h
 exact fn_calls he hy hT hm hf hname hc h
inductive Fits (H:Nat→Ob):AV→AV→Prop
 | refl (a:AV):Fits H a a
 | row (k:Nat) (e:TypeId) (t:Ty) (h:H k=.row e t []):Fits H (.row k) (.nils e t)
 | row0 (k:Nat) (e:TypeId) (t:Ty) (h:H k=.row e t []):Fits H (.row k) .nil0
 | agg (c c':AV) (h:Fits H c c'):Fits H (.agg c) (.agg c')
 | tuple (c c':AV) (h:Fits H c c'):Fits H (.tuple c) (.tuple c')
 | cons (a a' b b':AV) (h1:Fits H a a') (h2:Fits H b b'):Fits H (.cons a b) (.cons a' b')
def GivesN (v:AV) (news:List Ob) (v':AV) (news':List Ob):Prop:=∃ext:List Ob,news=news'++ext∧(∀o∈ext,∃e t,o=.row e t [])∧Fits (fun k=>if k<news'.length then .none else newsH news k) v v'
theorem GivesN.refl (v:AV) (news:List Ob):GivesN v news v news:=⟨[],by simp,by simp,.refl _⟩
theorem Fits.of {S:Nat→Prop} {w:World} {β:Nat→Cr} {H H0:Nat→Ob} (h0:∀k e t,H0 k=.row e t []→H k=.row e t []∧(β k).g=none) {v v':AV} (hf:Fits H0 v v'):∀vs,VL S w β H v' vs→VL S w β H v vs:=by
 induction hf with
 | refl a=>exact fun _ h=>h
 | row k e t h=>
  rintro vs ⟨u,e1,hl⟩
  obtain⟨q1,q2⟩:=h0 k e t h
  refine⟨u,e1,?_⟩
  simp only[leaf,q1,rowV,q2]
  exact hl
 | row0 k e t h=>
  rintro vs ⟨u,e1,hl⟩
  obtain⟨q1,q2⟩:=h0 k e t h
  refine⟨u,e1,?_⟩
  simp only[leaf,q1,rowV,q2]
  exact hl
 | agg c c' _ ih=>exact fun _ ⟨cs,e,h⟩=>⟨cs,e,ih _ h⟩
 | tuple c c' _ ih=>exact fun _ ⟨cs,e,h⟩=>⟨cs,e,ih _ h⟩
 | cons a a' b b' _ _ ih1 ih2=>exact fun _ ⟨v,r,e,h1,h2⟩=>⟨v,r,e,ih1 _ h1,ih2 _ h2⟩
theorem fn_okG {P:Program} {T:Tab} {env:Env} (he:EnvOk P env) (hT:TabOk P T) (hm:P.follows .mixedOrders=true) {g:FuncId} {fn:Func} (hf:P.funcs[g]? = some fn) (hname:(fn.name == "runtime.NumGoroutine")=false) (hb:fn.body.isSome=true) {args:List AV} {v:AV} {news:List Ob}
 (h:fnA T env fn (bodyOf fn) args fun v' news'=>GivesN v news v' news') (hy:env.ycnt=0∧env.isIt=false:=by exact⟨rfl,rfl⟩):ACalls P g args v news:=by
 obtain⟨c,hc⟩:=Option.isSome_iff_exists.1 hb
 have e:bodyOf fn=c:=by unfold bodyOf;rw[hc];rfl
 rw[e] at h
 refine⟨⟨fn,hf,hname,by rw[hc];rfl⟩,fun S w vs hS hvs=>Calls.mono (fn_callsR he hy hT hm hf hc h S w vs hS hvs) ?_⟩
 rintro e w' ⟨v',news',u,⟨ext,rfl,hx,hf⟩,rfl,S',β',hr,hv⟩
 let β2:Nat→Cr:=fun k=>if k<news'.length then β' k else ⟨none,0,[]⟩
 have hnew:∀k,¬k<news'.length→newsH news' k=.none:=fun k hk=>by
  simp only[newsH,List.getD]
  rw[List.getElem?_eq_none (by omega)]
  rfl
 have hold:∀k,k<news'.length→newsH (news'++ext) k=newsH news' k:=fun k hk=>by
  simp only[newsH,List.getD]
  rw[List.getElem?_append_left hk]
 have hext:∀k,¬k<news'.length→newsH (news'++ext) k=.none∨∃e t,newsH (news'++ext) k=.row e t []:=fun k hk=>by
  simp only[newsH,List.getD]
  rw[List.getElem?_append_right (by omega)]
  cases ho:ext[k-news'.length]? with
  | none=>exact .inl rfl
  | some o=>obtain⟨e,t,rfl⟩:=hx o (List.mem_of_getElem? ho);exact .inr ⟨e,t,rfl⟩
 have hE:Ext S' w' β' (newsH news') S' w' β2 (newsH (news'++ext)):=by
  refine⟨fun b hb=>⟨hb,rfl⟩,fun k => ?_⟩
  by_cases hk:k<news'.length
  · simp only[β2,if_pos hk,hold k hk];exact ObExt.refl _ _
  · rw[hnew k hk];trivial
 have hgo:∀k g,(newsH (news'++ext) k).live=true→(β2 k).has g→(newsH news' k).live=true∧(β' k).has g:=by
  intro k g hl hg
  by_cases hk:k<news'.length
  · simp only[β2,if_pos hk] at hg
    rw[hold k hk] at hl
    exact⟨hl,hg⟩
  · simp only[β2,if_neg hk] at hg
    exact absurd hg has_nil
 refine⟨u,rfl,S',β2,⟨hr.fr,hr.s0,hr.sS,fun k g hl hg=>hr.own k g (hgo k g hl hg).1 (hgo k g hl hg).2,fun k k' g hl hl' hg hg'=>hr.dis k k' g (hgo k g hl hg).1 (hgo k' g hl' hg').1 (hgo k g hl hg).2 (hgo k' g hl' hg').2,fun k => ?_⟩,?_⟩
 · by_cases hk:k<news'.length
   · simp only[β2,if_pos hk]
     rw[hold k hk]
     exact ObR.ext hE _ _ (fun _ _=>rfl) (hr.ob k)
   · simp only[β2,if_neg hk]
     rcases hext k hk with h1 | ⟨e,t,h1⟩
     · rw[h1];trivial
     · rw[h1];exact .inl ⟨rfl,rfl⟩
 · refine Fits.of (H0:=fun k=>if k<news'.length then .none else newsH (news'++ext) k) (fun k e t h => ?_) hf _ (VL.ext hE _ _ hv)
   by_cases hk:k<news'.length
   · simp only[if_pos hk] at h;cases h
   · simp only[if_neg hk] at h
     exact⟨h,by simp only[β2,if_neg hk]⟩
theorem fn_ok2 {P:Program} {T:Tab} {env:Env} (he:EnvOk P env) (hT:TabOk P T) (hm:P.follows .mixedOrders=true) {g:FuncId} {fn:Func} (hf:P.funcs[g]? = some fn) (hname:(fn.name == "runtime.NumGoroutine")=false) (hb:fn.body.isSome=true) {args:List AV} {obs:List Ob} {v:AV} {obs':List Ob}
 (h:fnB T env fn (bodyOf fn) args obs fun v' o'=>v'=v∧o'=obs') (hy:env.ycnt=0∧env.isIt=false:=by exact⟨rfl,rfl⟩):ACalls2 P g args obs v obs':=by
 obtain⟨c,hc⟩:=Option.isSome_iff_exists.1 hb
 have e:bodyOf fn=c:=by unfold bodyOf;rw[hc];rfl
 rw[e] at h
 exact fn_calls2B he hy hT hm hf hname hc h
def loopU (live:List Nat) (body:St→(Ex→St→Prop)→Prop):Nat→St→(Ex→St→Prop)→Prop
 | 0,_,_=>False
 | n+1,s,Q=>body s (thenA (fun s'=>loopU live body n (s'.tidy live) Q) Q)
theorem loop_unroll {live:List Nat} {body:St→(Ex→St→Prop)→Prop} {Q:Ex→St→Prop} (hm:∀s (K K':Ex→St→Prop),(∀e s,K e s→K' e s)→body s K→body s K') (n:Nat) {s:St} (h:loopU live body n s Q):loopT live body s Q:=by
 refine⟨fun n s=>loopU live body n s Q,n,h,fun n s h => ?_⟩
 cases n with
 | zero=>exact h.elim
 | succ n=>
  refine hm s _ _ (fun e s hh => ?_) h
  cases e with
  | normal=>exact⟨n,Nat.lt_succ_self n,hh⟩
  | exit i=>exact hh
  | ret=>exact hh
  | panic x=>exact hh
theorem guardA_mono:∀(gs:List Prop) {k k':Prop},(k→k')→guardA gs k→guardA gs k'
 | [],_,_,h,hk=>h hk
 | _::gs,_,_,h,hk=>⟨hk.1,guardA_mono gs h hk.2⟩
theorem opsA_mono {T:Tab} {env:Env} {ops:Array Oper}:∀(l:List Nat) (s:St) (tr:List Rc) (k k':St→List Rc→Prop),(∀s tr,k s tr→k' s tr)→opsA T env ops l s tr k→opsA T env ops l s tr k'
 | [],s,tr,k,k',hk,h=>hk s tr h
 | i::l,s,tr,k,k',hk,h=>by
  simp only[opsA] at h ⊢
  split at h
  · cases h
  · split at h
    · cases h
    · rename_i b _
      cases b with
      | false=>exact opsA_mono l _ _ k k' hk h
      | true=>
       simp only[cond_true] at h ⊢
       unfold opA at h ⊢
       split at h
       rotate_left
       · cases h
       rename_i r _
       cases hok:okUpd (fixG ops _ true s).obs.length r.upd with
       | false=>rw[hok] at h;exact h.elim
       | true=>
        rw[hok] at h
        simp only[cond_true] at h ⊢
        exact guardA_mono _ (fun hh=>opsA_mono l _ _ k k' hk hh) h
theorem opO1_mono {T:Tab} {env:Env} {o:Oper} {j:Nat} {s:St} {k k':St→Prop} {kp kp':Value→St→Prop} (hk:∀s,k s→k' s) (hp:∀x s,kp x s→kp' x s) (h:opO1 T env o j s k kp):opO1 T env o j s k' kp':=by
 unfold opO1 at h ⊢
 split at h
 · unfold opA at h ⊢
   split at h
   rotate_left
   · cases h
   rename_i r _
   cases hok:okUpd s.obs.length r.upd with
   | false=>rw[hok] at h;exact h.elim
   | true=>
    rw[hok] at h
    simp only[cond_true] at h ⊢
    exact guardA_mono _ (fun hh=>hk _ hh) h
 · exact⟨fun hh=>hk _ (h.1 hh),hk _ h.2⟩
 · rename_i b x r _
   cases hok:okUpd s.obs.length r.upd with
   | false=>rw[hok] at h;exact h.elim
   | true=>
    rw[hok] at h
    simp only[cond_true] at h ⊢
    refine guardA_mono _ (fun hh => ?_) h
    cases b with
    | true=>exact hp _ _ hh
    | false=>exact hk _ hh
 · rename_i l as _
   cases he:(as.flatMap AV.refs).isEmpty with
   | false=>rw[he] at h;exact h.elim
   | true=>
    rw[he] at h
    simp only[cond_true] at h ⊢
    exact⟨h.1,h.2.1,h.2.2.1,h.2.2.2.1,hk _ h.2.2.2.2.1,hk _ h.2.2.2.2.2⟩
theorem opO_mono {T:Tab} {env:Env} {o:Oper} {j:Nat} {s:St} {k k':St→Prop} {kp kp':Value→St→Prop} (hk:∀s,k s→k' s) (hp:∀x s,kp x s→kp' x s) (h:opO T env o j s k kp):opO T env o j s k' kp':=by
 unfold opO at h ⊢
 split at h
 · obtain⟨h1,h2,h3,h4⟩:=h
   exact⟨h1,h2,h3,guardA_mono _ (fun⟨q0,q1,q2,q3,q4⟩=>⟨q0,q1,q2,hk _ q3,fun y=>hk _ (q4 y)⟩) h4⟩
 split at h
 · exact opO1_mono hk hp h
 · exact⟨h.1,fun i h1 h2=>hk _ (h.2.1 i h1 h2),fun hh=>hk _ (h.2.2 hh)⟩
theorem opsO_mono {T:Tab} {env:Env} {ops:Array Oper} {kp kp':Value→St→Prop} (hp:∀x s,kp x s→kp' x s):∀(l:List Nat) (s:St) (k k':St→Prop),(∀s,k s→k' s)→opsO T env ops l s k kp→opsO T env ops l s k' kp'
 | [],s,k,k',hk,h=>hk s h
 | i::l,s,k,k',hk,h=>by
  simp only[opsO] at h ⊢
  split at h
  · cases h
  · split at h
    · cases h
    · rename_i b _
      cases b with
      | false=>exact opsO_mono hp l _ k k' hk h
      | true=>exact opO_mono (fun s hh=>opsO_mono hp l s k k' hk hh) hp h
theorem regionA_mono {T:Tab} {env:Env} {ops:Array Oper} {draw:Bool} {s:St} {k k':St→Prop} {kp kp':Value→St→Prop} (hk:∀s,k s→k' s) (hp:∀x s,kp x s→kp' x s) (h:regionA T env ops draw s k kp):regionA T env ops draw s k' kp':=by
 unfold regionA at h ⊢
 cases draw with
 | false=>exact opsO_mono hp _ _ _ _ hk h
 | true=>
  simp only[cond_true] at h ⊢
  cases hord:okOrd ops (orderOf ops) with
  | false=>rw[hord] at h;exact h.elim
  | true=>
   rw[hord] at h
   simp only[cond_true] at h ⊢
   refine opsA_mono _ _ _ _ _ (fun s tr hh => ?_) h
   cases hi:indepAll (softOk tr) ops (ancGo ops (orderOf ops) []) tr with
   | false=>rw[hi] at hh;exact hh.elim
   | true=>rw[hi] at hh;exact hk s hh
theorem codeA_mono {T:Tab}:∀(c:Code) (env:Env) (L:List Nat) (s:St) (K K':Ex→St→Prop),(∀e s,K e s→K' e s)→codeA T env c L s K→codeA T env c L s K'
 | .skip,_,_,s,K,K',hk,h=>hk _ _ h
 | .region _ ops draw,_,_,s,K,K',hk,h=>regionA_mono (fun s hh=>hk _ s hh) (fun x s hh=>hk _ s hh) h
 | .seq a b,env,L,s,K,K',hk,h=>by
  refine codeA_mono a env _ s _ _ (fun e s hh => ?_) h
  cases e with
  | normal=>
   simp only[thenA] at hh ⊢
   rw[goOn_eq] at hh ⊢
   exact codeA_mono b env L _ K K' hk hh
  | exit i=>exact hk _ _ hh
  | ret=>exact hk _ _ hh
  | panic x=>exact hk _ _ hh
 | .cond c a b,env,L,s,K,K',hk,h=>by
  simp only[codeA,codeG] at h ⊢
  split at h
  · rename_i b' hb
    cases b' with
    | true=>exact codeA_mono a env L _ K K' hk h
    | false=>exact codeA_mono b env L _ K K' hk h
  · cases h
 | .block id c,env,L,s,K,K',hk,h=>by
  refine codeA_mono c env L s _ _ (fun e s hh => ?_) h
  cases e with
  | normal=>exact hk _ _ hh
  | exit j=>
   simp only[blockA] at hh ⊢
   cases e:j==id with
   | true=>rw[e] at hh;exact hk _ _ hh
   | false=>rw[e] at hh;exact hk _ _ hh
  | ret=>exact hk _ _ hh
  | panic x=>exact hk _ _ hh
 | .exit id,_,_,s,K,K',hk,h=>hk _ _ h
 | .ret,_,_,s,K,K',hk,h=>hk _ _ h
 | .loop c,env,L,s,K,K',hk,h=>by
  obtain⟨I,n,h1,h2⟩:=h
  refine⟨I,n,h1,fun n s hI=>codeA_mono c env _ s _ _ (fun e s hh => ?_) (h2 n s hI)⟩
  cases e with
  | normal=>exact hh
  | exit i=>exact hk _ _ hh
  | ret=>exact hk _ _ hh
  | panic x=>exact hk _ _ hh
 | .rangeFunc f ps x y,env,L,s,K,K',hk,h=>by
  simp only[codeA,codeG] at h ⊢
  split at h
  · exact h.elim
  · cases hi:env.isIt with
    | true=>rw[hi] at h;exact h.elim
    | false=>
     rw[hi] at h
     simp only[cond_false] at h ⊢
     refine guardA_mono _ (fun hh => ?_) h
     obtain⟨I,h0,h1,h2⟩:=hh
     refine⟨I,h0,fun i t hlt hI=>⟨(h1 i t hlt hI).1,codeA_mono x env.noY _ _ _ _ (fun e s hh => ?_) (h1 i t hlt hI).2⟩,fun t hI=>hk _ _ (h2 t hI)⟩
     cases e with
     | normal=>
      refine codeA_mono y env.noY _ _ _ _ (fun e s hh => ?_) hh
      cases e with
      | normal=>exact hh
      | exit i=>exact hk _ _ hh
      | ret=>exact hk _ _ hh
      | panic x=>exact hh
     | exit i=>exact hh
     | ret=>exact hh
     | panic x=>exact hh
 | .scope _,_,_,_,_,_,_,h=>h.elim
 | .label _,_,_,_,_,_,_,h=>h.elim
 | .goto _,_,_,_,_,_,_,h=>h.elim
 | .refuse _,_,_,_,_,_,_,h=>h.elim
theorem fn_okI {P:Program} {T:Tab} {env:Env} (he:EnvOk P env) (hT:TabOk P T) (hm:P.follows .mixedOrders=true) {g:FuncId} {fn:Func} (hf:P.funcs[g]? = some fn) (hname:(fn.name == "runtime.NumGoroutine")=false) (hb:fn.body.isSome=true) {args caps:List AV} {obs:List Ob} {cnt:Nat} {arg:Nat→List AV}
 (h:∀l,fnI T env fn (bodyOf fn) args caps obs l cnt arg):AIter P g args caps obs cnt arg:=by
 obtain⟨c,hc⟩:=Option.isSome_iff_exists.1 hb
 have e:bodyOf fn=c:=by unfold bodyOf;rw[hc];rfl
 rw[e] at h
 exact fn_iter he hT hm hf hname hc h
theorem loop_rounds {T:Tab} {env:Env} {c:Code} {live L:List Nat} {s:St} {Q:Ex→St→Prop} (n:Nat) (h:loopU live (codeA T env c L) n s Q):loopT live (codeA T env c L) s Q:=
 loop_unroll (fun s K K' hk hh=>codeA_mono c env L s K K' hk hh) n h
end Go.Proofs.YtkpjcmiijlpcaaaGreat.Aw
