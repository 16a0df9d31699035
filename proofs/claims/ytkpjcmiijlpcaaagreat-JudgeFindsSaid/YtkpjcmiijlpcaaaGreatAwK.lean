/- An abstract program logic over the model, eleventh part: lengths, appends, slices that are. -/
import Derived.Test.YtkpjcmiijlpcaaaGreatAwJ
import Derived.Maps.AppendAt
namespace Go.Proofs.YtkpjcmiijlpcaaaGreat.Aw
open Go
theorem Cat.take {α:Type} {R:α→List Value→Prop} {n:Nat} (hR:∀x cs,R x cs→cs.length=n):∀(xs:List α) cs (i:Nat),Cat R xs cs→Cat R (xs.take i) (cs.take (i*n))
 | [],_,i,h=>by cases h;simp[Cat]
 | _::_,_,0,_=>by simp[Cat]
 | x::xs,_,i+1,⟨c1,c2,e,h1,h2⟩=>by
  have l1:=hR _ _ h1
  refine⟨c1,c2.take (i*n),?_,h1,Cat.take hR xs c2 i h2⟩
  rw[e,List.take_append,List.take_of_length_le (by rw[l1,Nat.add_mul];omega),show (i+1)*n-c1.length=i*n by rw[l1,Nat.add_mul];omega]
theorem Cat.drop {α:Type} {R:α→List Value→Prop} {n:Nat} (hR:∀x cs,R x cs→cs.length=n):∀(xs:List α) cs (i:Nat),Cat R xs cs→Cat R (xs.drop i) (cs.drop (i*n))
 | [],_,i,h=>by cases h;simp[Cat]
 | _::_,_,0,h=>by simpa using h
 | x::xs,_,i+1,⟨c1,c2,e,h1,h2⟩=>by
  have l1:=hR _ _ h1
  have ih:=Cat.drop hR xs c2 i h2
  have t1:c1.drop ((i+1)*n)=[]:=List.drop_of_length_le (by rw[l1,Nat.add_mul];omega)
  rw[e,List.drop_append,t1,show (i+1)*n-c1.length=i*n by rw[l1,Nat.add_mul];omega]
  exact ih
theorem view_of {M S0:Nat→Prop} {w0:World} {S:Nat→Prop} {β:Nat→Cr} {H:Nat→Ob} {w:World} (h:Rel M S0 w0 S β H w) {k lo n:Nat} {e:TypeId} {t:Ty} {xs:List t.den} {u:Value} (hl:leaf S w β H (.view k lo n e t) u) (he:viewOf H k lo n e t=some xs) :
 (H k).live=true∧∃ao c news,u=.slice ao n c∧n=xs.length∧n≤c∧Cat (DR S w t) xs news∧(∀j u',news[j]? = some u'→∃ad,ao=some ad∧(β k).g=some ad.block∧w.cell? (ad.add j)=some u')∧(ao=none→c=0)∧((∃e' cs,H k=.cells e' cs)→c≤n):=by
 unfold viewOf at he
 simp only[leaf] at hl
 split at he
 · rename_i e' t' xs0 hk
   split at he
   rotate_left
   · cases he
   rename_i hc
   obtain⟨rfl,rfl⟩:=hc
   simp only[Option.some.injEq] at he
   subst he
   rw[hk] at hl
   obtain⟨ao,c,hv,h0,h1,h2,h3⟩:=hl
   have hob:=h.ob k
   rw[hk] at hob
   have hlen:((xs0.drop lo).take n).length=n:=by simp;omega
   refine⟨by rw[hk];rfl,?_⟩
   rcases hob with ⟨e2,e3⟩ | ⟨g,cur,e2,e3,e4,e5,e6,e7⟩
   · subst e3
     have:n=0:=by simp at h1;omega
     subst this
     exact⟨ao,c,[],hv,by simp,h0,by simp[Cat],fun j u hj=>by simp at hj,h3,fun⟨_,_,q⟩=>by rw[hk] at q;cases q⟩
   · have hc2:=Cat.take (DR.length t') _ _ n (Cat.drop (DR.length t') _ _ lo e7)
     refine⟨ao,c,_,hv,hlen.symm,h0,hc2,fun j u' hj => ?_,h3,fun⟨_,_,q⟩=>by rw[hk] at q;cases q⟩
     rw[List.getElem?_take] at hj
     split at hj
     rotate_left
     · cases hj
     rename_i hjn
     have hn:0<n:=by
      rcases Nat.eq_zero_or_pos n with e | e
      · subst e;simp at hjn
      · exact e
     obtain⟨g',q1,q2⟩:=h2 hn
     rw[e2] at q1
     cases q1
     refine⟨_,q2,e2,?_⟩
     rw[add_lit,cell_of_row w g _ _ _ _ e3]
     rw[List.getElem?_drop,List.getElem?_take] at hj
     split at hj
     · simpa using hj
     · cases hj
 · rename_i e' cs hk
   split at he
   rotate_left
   · cases he
   rename_i hpos
   rw[hk] at hl
   obtain⟨ao,c,hv,h0,h2,h3,h4⟩:=hl
   have hob:=h.ob k
   rw[hk] at hob
   obtain⟨g,vs,eg,eh,hvs⟩:=hob
   obtain⟨hcat,hlen⟩:=decs_of n _ _ xs (VLs.take (n*t.size) _ _ (VLs.drop lo _ _ hvs)) he
   refine⟨by rw[hk];rfl,ao,c,_,hv,hlen.symm,h0,hcat,fun j u' hj => ?_,h3,fun _=>h4⟩
   rw[List.getElem?_take] at hj
   split at hj
   rotate_left
   · cases hj
   rename_i hjn
   have hn:0<n:=by
    rcases Nat.eq_zero_or_pos n with e | e
    · subst e;simp at hjn
    · exact e
   obtain⟨g',q1,q2⟩:=h2 hn
   rw[eg] at q1
   cases q1
   refine⟨_,q2,eg,?_⟩
   rw[add_lit,cell_of_row w g _ _ _ _ eh]
   rw[List.getElem?_drop] at hj
   simpa using hj
 · cases he
section
variable {P:Program} {T:Tab} {env:Env} {M S0:Nat→Prop} {w0:World} {S:Nat→Prop} {β:Nat→Cr} {H:Nat→Ob} {w:World} {o:Oper} {a:Act} {ev:Operand→AV} {nid:Nat} {r:Res}
theorem Rel.born (h:Rel M S0 w0 S β H w) (nid:Nat) (hn:H nid=.none) (c:Cr) (o:Ob) {w':World}
 (hgr:w.grownBy w' none) (hc:∀g,c.has g→w.heap.size≤g∧g<w'.heap.size)
 (hob:∀β' H',Ext S w β H S w' β' H'→ObR S w' β' H' c o)
 (hd:w.drawn≤w'.drawn:=by first | exact Nat.le_refl _ | exact Nat.le_succ _ | assumption) :
 Rel M S0 w0 S (setC β nid c) (updH H [(nid,o)]) w'∧Ext S w β H S w' (setC β nid c) (updH H [(nid,o)]):=by
 have hb:∀b,b<w.heap.size→w'.heap[b]? = w.heap[b]? := fun b hb=>hgr.block b hb (by simp)
 obtain⟨h2,hx2⟩:=h.grow hgr.os hgr.tape hgr.output hgr.size hb
 have hx:Ext S w β H S w' (setC β nid c) (updH H [(nid,o)]):=by
  refine⟨hx2.hS,fun k => ?_⟩
  by_cases hk:k=nid
  · subst hk;rw[hn];trivial
  · rw[setC_other _ _ _ _ hk,updH_other _ _ _ _ hk];exact ObExt.refl _ _
 refine⟨⟨h2.fr,h2.s0,h2.sS,?_,?_,?_⟩,hx⟩
 · intro k g hl hg
   by_cases hk:k=nid
   · subst hk
     rw[setC_one] at hg
     obtain⟨q1,q2⟩:=hc g hg
     exact⟨.inr (Nat.le_trans h.fr.size q1),q2,fun hs=>by have:=(h.sS g hs).1;omega⟩
   · rw[setC_other _ _ _ _ hk] at hg
     rw[updH_other _ _ _ _ hk] at hl
     exact h2.own k g hl hg
 · intro k k' g hl hl' hg hg'
   by_cases hk:k=nid
   · by_cases hk':k'=nid
     · rw[hk,hk']
     · subst hk
       rw[setC_one] at hg
       rw[setC_other _ _ _ _ hk'] at hg'
       rw[updH_other _ _ _ _ hk'] at hl'
       have:=(h.own k' _ hl' hg').2.1
       have:=(hc g hg).1
       omega
   · by_cases hk':k'=nid
     · subst hk'
       rw[setC_one] at hg'
       rw[setC_other _ _ _ _ hk] at hg
       rw[updH_other _ _ _ _ hk] at hl
       have:=(h.own k _ hl hg).2.1
       have:=(hc g hg').1
       omega
     · rw[setC_other _ _ _ _ hk] at hg
       rw[updH_other _ _ _ _ hk] at hl
       rw[setC_other _ _ _ _ hk'] at hg'
       rw[updH_other _ _ _ _ hk'] at hl'
       exact h.dis k k' g hl hl' hg hg'
 · intro k
   by_cases hk:k=nid
   · subst hk
     rw[setC_one,updH_one]
     exact hob _ _ hx
   · rw[setC_other _ _ _ _ hk,updH_other _ _ _ _ hk]
     by_cases hl:(H k).live=true
     · exact ObR.ext hx _ _ (fun g hg=>hb g (h.own k g hl hg).2.1) (h.ob k)
     · exact ObR.idle (by simpa using hl)
theorem elems_of (h:Rel M S0 w0 S β H w) {x:AV} {u:Value} {e:TypeId} {t:Ty} {xs:List t.den} (hv:VL S w β H x [u]) (he:elems H x=some ⟨e,t,xs⟩) :
 ∃ao n c news,u=.slice ao n c∧n=xs.length∧n≤c∧Cat (DR S w t) xs news∧∀j u,news[j]? = some u→∃ad,ao=some ad∧w.cell? (ad.add j)=some u:=by
 cases x<;>simp only[elems] at he<;>try cases he
 case nils=>
  obtain⟨v,e1,hl⟩:=hv
  cases e1
  exact⟨none,0,0,[],hl,rfl,Nat.le_refl _,rfl,fun j u hj=>by simp at hj⟩
 case row k=>
  split at he
  · rename_i e' t' xs' hk
    cases he
    obtain⟨v,e1,hl⟩:=hv
    cases e1
    simp only[leaf,hk] at hl
    have hob:=h.ob k
    rw[hk] at hob
    rcases hob with ⟨e2,e3⟩ | ⟨g,cur,e2,e3,e4,e5,e6,e7⟩
    · subst e3
      refine⟨none,0,0,[],?_,rfl,Nat.le_refl _,rfl,fun j u hj=>by simp at hj⟩
      rw[hl];unfold rowV;rw[e2]
    · refine⟨some ⟨g,0,none⟩,xs.length,(β k).cap,_,by rw[hl,rowV_some e2],rfl,e4,e7,fun j u hj=>⟨_,rfl,?_⟩⟩
      rw[add_lit,cell_of_row w g _ _ _ _ e3]
      rw[List.getElem?_take] at hj
      split at hj
      · simpa using hj
      · cases hj
  · cases he
 case list=>
  obtain⟨v,e1,hl⟩:=hv
  cases e1
  obtain⟨ao,n,c,es,e1,e2,e3,e4,e5,_⟩:=hl
  cases e1
  exact⟨ao,n,c,es,rfl,e2,e3,e4,fun j u hj=>by obtain⟨ad,q1,_,q2⟩:=e5 j u hj;exact⟨ad,q1,q2⟩⟩
 case tl=>
  obtain⟨v,e1,hl,_⟩:=hv
  cases e1
  obtain⟨ao,n,c,es,e1,e2,e3,e4,e5,_⟩:=hl
  cases e1
  exact⟨ao,n,c,es,rfl,e2,e3,e4,fun j u hj=>by obtain⟨ad,q1,_,q2⟩:=e5 j u hj;exact⟨ad,q1,q2⟩⟩
 case emp=>
  obtain⟨v,e1,hl⟩:=hv
  cases e1
  obtain⟨ad,c,rfl⟩:=hl
  exact⟨some ad,0,c,[],rfl,rfl,Nat.zero_le _,rfl,fun j u hj=>by simp at hj⟩
 case view k lo n e' t'=>
  obtain⟨ys,h1,h2⟩:=Option.map_eq_some_iff.1 he
  cases h2
  obtain⟨v,e1,hl⟩:=hv
  cases e1
  obtain⟨_,ao,c,news,q1,q2,q3,q4,q5,_⟩:=view_of h hl h1
  exact⟨ao,n,c,news,q1,q2,q3,q4,fun j u hj=>by obtain⟨ad,r1,_,r2⟩:=q5 j u hj;exact⟨ad,r1,r2⟩⟩
theorem owned_of (h:Rel M S0 w0 S β H w) {k:Nat} {e:TypeId} {t:Ty} {xs:List t.den} (hk:H k=.row e t xs) :
 ∃cs,Cat (DR S w t) xs cs∧w.ownsRow 0 e t.size (rowV (β k) xs.length) xs.length cs∧(rowV (β k) xs.length).ownBlock=(β k).g:=by
 have hob:=h.ob k
 rw[hk] at hob
 rcases hob with ⟨e2,e3⟩ | ⟨g,cur,e2,e3,e4,e5,e6,e7⟩
 · subst e3
   have:rowV (β k) ([]:List t.den).length=.slice none 0 0:=by unfold rowV;rw[e2]
   refine⟨[],rfl,?_,?_⟩
   · rw[this];exact World.ownsRow_nil _ _ _ _
   · rw[this,e2];rfl
 · refine⟨_,e7,⟨by rw[Cat.length (DR.length t) _ _ e7],.inr ⟨g,(β k).cap,cur,rowV_some e2,Nat.zero_le _,e3,e4,e5,e6,rfl⟩⟩,?_⟩
   rw[rowV_some e2,e2];rfl
theorem row_of {S':Nat→Prop} {w':World} {β':Nat→Cr} {H':Nat→Ob} {e:TypeId} {t:Ty} {zs:List t.den} {v:Value} {cs:List Value} (hown:w'.ownsRow 0 e t.size v zs.length cs) (hcat:Cat (DR S' w' t) zs cs) :
 ∃c:Cr,v=rowV c zs.length∧ObR S' w' β' H' c (.row e t zs)∧c.g=v.ownBlock∧c.more=[]:=by
 rcases hown.2 with ⟨e1,e2⟩ | ⟨g,cap,cur,e1,_,e3,e4,e5,e6,e7⟩
 · refine⟨⟨none,0,[]⟩,by rw[e1];rfl,.inl ⟨rfl,List.eq_nil_of_length_eq_zero e2⟩,by rw[e1];rfl,rfl⟩
 · subst e1
   refine⟨⟨some g,cap,[]⟩,rfl,.inr ⟨g,cur,rfl,e3,e4,e5,e6,by rw[e7];exact hcat⟩,rfl,rfl⟩
theorem run_append_none {t ty e:TypeId} {i:TypeInfo} (ht:P.underlying t=some (.slice e)) (hi:P.info? e=some i) (base:Option Addr) (n cap c:Nat) (hle:n≤cap) :
 (Builtin.append_ #[t,t] ty #[.slice base n cap,.slice none 0 c]).run P w=.ok (.slice base n cap) w:=by
 cases base<;>simp[Builtin.append_,run_underlying ht,sizeOf,typeInfo,hi,Builtin.lenOf,Builtin.firstCells,hle,storeCells]
theorem append_of (hT:TabOk P T) {ts ty e:TypeId} (hd:(T.at_ ts).d=.slice e) {t:Ty} (hsz:(T.at_ e).size=t.size) (hpos:0<t.size) (hk:(T.at_ e).known=true) (hb:0<(T.at_ e).bytes)
 {v x:Value} {xs zs:List t.den} {cs:List Value} (hown:w.ownsRow 0 e t.size v xs.length cs) (hc1:Cat (DR S w t) xs cs)
 {ao:Option Addr} {n c:Nat} {news:List Value} (hx:x=.slice ao n c) (hn:n=zs.length) (hc2:Cat (DR S w t) zs news) (hnews:∀j u,news[j]? = some u→∃ad,ao=some ad∧w.cell? (ad.add j)=some u)
 (hbytes:(xs.length+zs.length)*(T.at_ e).bytes≤140737488355328) (hS:∀b,S b→b<w.heap.size∧some b≠v.ownBlock) :
 ∃v' w',(Builtin.append_ #[ts,ts] ty #[v,x]).run P w=.ok v' w'∧w.grownBy w' v.ownBlock∧(v'.ownBlock=v.ownBlock∨∃g,v'.ownBlock=some g∧w.heap.size≤g∧g<w'.heap.size) ∧
  ∃cs',w'.ownsRow 0 e t.size v' (xs++zs).length cs'∧Cat (DR S w' t) (xs++zs) cs':=by
 obtain⟨i,h1,h2,h3,z,h4,h5⟩:=(hT e (known_d hk)).info
 have hdesc:=(hT ts (by rw[hd];simp)).desc
 unfold DescOk at hdesc
 rw[hd] at hdesc
 have hl:=Cat.length (DR.length t) _ _ hc2
 have hone:=Cat.mem (p:=fun u=>u.oneCell'=true) (DR.oneCell t) _ _ hc2
 cases ao with
 | none=>
  have hz:zs=[]:=by
   cases hnz:news with
   | nil=>rw[hnz] at hl;exact List.eq_nil_of_length_eq_zero ((Nat.mul_eq_zero.1 hl.symm).resolve_right (by omega))
   | cons u us=>obtain⟨ad,q,_⟩:=hnews 0 u (by rw[hnz];rfl);cases q
  subst hz
  subst hn
  subst hx
  have hv:∃base m cap,v=.slice base m cap∧m≤cap:=by
   rcases hown.2 with ⟨e1,e2⟩ | ⟨g,cap,cur,e1,_,e3,e4,e5,e6,e7⟩
   · exact⟨_,_,_,e1,Nat.le_refl _⟩
   · exact⟨_,_,_,e1,e4⟩
  obtain⟨base,m,cap,hv,hle⟩:=hv
  refine⟨v,w,?_,⟨rfl,rfl,rfl,Nat.le_refl _,fun _ _ _=>rfl⟩,.inl rfl,cs,by simpa using hown,by simpa using hc1⟩
  rw[hv]
  exact run_append_none hdesc h1 base m cap c hle
 | some ad=>
  have hmax:xs.length+n≤maxLen:=by
   have h6:(xs.length+zs.length)*1≤(xs.length+zs.length)*(T.at_ e).bytes:=Nat.mul_le_mul_left _ hb
   simp only[maxLen]
   omega
  have hzc:z.cells.size=t.size:=by
   have h7:=VLs.length _ _ (h5 S w (fun _=>⟨none,0,[]⟩) (fun _=>.none))
   rw[←Array.length_toList,h7,(hT e (known_d hk)).zl,hsz]
  obtain⟨v',w',r1,r2,r3,r4,r5⟩:=run_append_own_at (P:=P) w 0 ts ty e i z t.size (T.at_ e).bytes hdesc h1 h4 (h2.trans hsz) h3 hzc hpos v xs.length cs hown ad n c news (by rw[hl,hn]) (fun j u hj=>by obtain⟨ad',q1,q2⟩:=hnews j u hj;cases q1;exact q2) hone hmax (by rw[hn];exact hbytes) (Nat.zero_le _)
  subst hx
  refine⟨v',w',r1,r3,?_,cs++news,?_,?_⟩
  · rcases r5 with q | q
    · exact .inl q
    · refine .inr ⟨_,q,Nat.le_refl _,?_⟩
      exact (World.ownsRow.lt r2 _ q).2
  · rw[List.length_append,←hn];exact r2
  · exact Cat.append _ _ _ _ (Cat.dr_mono (fun b hb=>⟨hb,r3.block b (hS b hb).1 (hS b hb).2⟩) hc1) (Cat.dr_mono (fun b hb=>⟨hb,r3.block b (hS b hb).1 (hS b hb).2⟩) hc2)
theorem ownedP_of (h:Rel M S0 w0 S β H w) {k:Nat} {e:TypeId} {xs:List AV} (hk:H k=.prow e xs) :
 ∃cs,VLs S w β H xs cs∧w.ownsRow 0 e 1 (rowV (β k) xs.length) xs.length cs∧(rowV (β k) xs.length).ownBlock=(β k).g ∧
  ∃ao c,rowV (β k) xs.length=.slice ao xs.length c∧∀j u,cs[j]? = some u→∃ad,ao=some ad∧w.cell? (ad.add j)=some u:=by
 have hob:=h.ob k
 rw[hk] at hob
 rcases hob with ⟨e2,e3⟩ | ⟨g,cur,e2,e3,e4,e5,e6,e7⟩
 · subst e3
   have:rowV (β k) ([]:List AV).length=.slice none 0 0:=by unfold rowV;rw[e2]
   refine⟨[],rfl,?_,?_,none,0,this,fun j u hj=>by simp at hj⟩
   · rw[this];exact World.ownsRow_nil _ _ _ _
   · rw[this,e2];rfl
 · refine⟨_,e7,⟨by rw[VLs.length _ _ e7,Nat.mul_one],.inr ⟨g,(β k).cap,cur,rowV_some e2,Nat.zero_le _,e3,e4,e5,by rw[e6,Nat.mul_one],by rw[Nat.mul_one]⟩⟩,?_,some ⟨g,0,none⟩,(β k).cap,rowV_some e2,fun j u hj=>⟨_,rfl,?_⟩⟩
   · rw[rowV_some e2,e2];rfl
   · rw[add_lit,cell_of_row w g _ _ _ _ e3]
     rw[List.getElem?_take] at hj
     split at hj
     · simpa using hj
     · cases hj
theorem appendP_of (hT:TabOk P T) {ts ty e:TypeId} (hd:(T.at_ ts).d=.slice e) (hsz:(T.at_ e).size=1) (hk:(T.at_ e).known=true) (hb:0<(T.at_ e).bytes)
 {v x:Value} {m:Nat} {cs:List Value} (hown:w.ownsRow 0 e 1 v m cs)
 {ao:Option Addr} {n c:Nat} {news:List Value} (hx:x=.slice ao n c) (hn:n=news.length) (hone:∀u∈news,u.oneCell'=true) (hnews:∀j u,news[j]? = some u→∃ad,ao=some ad∧w.cell? (ad.add j)=some u)
 (hbytes:(m+n)*(T.at_ e).bytes≤140737488355328) :
 ∃v' w',(Builtin.append_ #[ts,ts] ty #[v,x]).run P w=.ok v' w'∧w.grownBy w' v.ownBlock∧(v'.ownBlock=v.ownBlock∨∃g,v'.ownBlock=some g∧w.heap.size≤g∧g<w'.heap.size) ∧
  w'.ownsRow 0 e 1 v' (m+n) (cs++news):=by
 obtain⟨i,h1,h2,h3,z,h4,h5⟩:=(hT e (known_d hk)).info
 have hdesc:=(hT ts (by rw[hd];simp)).desc
 unfold DescOk at hdesc
 rw[hd] at hdesc
 cases ao with
 | none=>
  have hz:news=[]:=by
   cases hnz:news with
   | nil=>rfl
   | cons u us=>obtain⟨ad,q,_⟩:=hnews 0 u (by rw[hnz];rfl);cases q
  subst hz
  subst hn
  subst hx
  have hv:∃base m cap,v=.slice base m cap∧m≤cap:=by
   rcases hown.2 with ⟨e1,e2⟩ | ⟨g,cap,cur,e1,_,e3,e4,e5,e6,e7⟩
   · exact⟨_,_,_,e1,Nat.le_refl _⟩
   · exact⟨_,_,_,e1,e4⟩
  obtain⟨base,m',cap,hv,hle⟩:=hv
  refine⟨v,w,?_,⟨rfl,rfl,rfl,Nat.le_refl _,fun _ _ _=>rfl⟩,.inl rfl,by simpa using hown⟩
  rw[hv]
  exact run_append_none hdesc h1 base m' cap c hle
 | some ad=>
  have hmax:m+n≤maxLen:=by
   have h6:(m+n)*1≤(m+n)*(T.at_ e).bytes:=Nat.mul_le_mul_left _ hb
   simp only[maxLen]
   omega
  have hzc:z.cells.size=1:=by
   have h7:=VLs.length _ _ (h5 (fun _=>False) w (fun _=>⟨none,0,[]⟩) (fun _=>.none))
   rw[←Array.length_toList,h7,(hT e (known_d hk)).zl,hsz]
  obtain⟨v',w',r1,r2,r3,r4,r5⟩:=run_append_own_at (P:=P) w 0 ts ty e i z 1 (T.at_ e).bytes hdesc h1 h4 (h2.trans hsz) h3 hzc (by decide) v m cs hown ad n c news (by rw[Nat.mul_one,hn]) (fun j u hj=>by obtain⟨ad',q1,q2⟩:=hnews j u hj;cases q1;exact q2) hone hmax hbytes (Nat.zero_le _)
  subst hx
  refine⟨v',w',r1,r3,?_,r2⟩
  rcases r5 with q | q
  · exact .inl q
  · refine .inr ⟨_,q,Nat.le_refl _,?_⟩
    exact (World.ownsRow.lt r2 _ q).2
theorem appendN_of (hT:TabOk P T) {ts ty e:TypeId} (hd:(T.at_ ts).d=.slice e) {sz:Nat} (hsz:(T.at_ e).size=sz) (hpos:0<sz) (hk:(T.at_ e).known=true) (hb:0<(T.at_ e).bytes)
 {v x:Value} {m:Nat} {cs:List Value} (hown:w.ownsRow 0 e sz v m cs)
 {ao:Option Addr} {n c:Nat} {news:List Value} (hx:x=.slice ao n c) (hn:n*sz=news.length) (hone:∀u∈news,u.oneCell'=true) (hnews:∀j u,news[j]? = some u→∃ad,ao=some ad∧w.cell? (ad.add j)=some u)
 (hbytes:(m+n)*(T.at_ e).bytes≤140737488355328) :
 ∃v' w',(Builtin.append_ #[ts,ts] ty #[v,x]).run P w=.ok v' w'∧w.grownBy w' v.ownBlock∧(v'.ownBlock=v.ownBlock∨∃g,v'.ownBlock=some g∧w.heap.size≤g∧g<w'.heap.size) ∧
  w'.ownsRow 0 e sz v' (m+n) (cs++news):=by
 obtain⟨i,h1,h2,h3,z,h4,h5⟩:=(hT e (known_d hk)).info
 have hdesc:=(hT ts (by rw[hd];simp)).desc
 unfold DescOk at hdesc
 rw[hd] at hdesc
 cases ao with
 | none=>
  have hz:news=[]:=by
   cases hnz:news with
   | nil=>rfl
   | cons u us=>obtain⟨ad,q,_⟩:=hnews 0 u (by rw[hnz];rfl);cases q
  subst hz
  have hn:n=0:=(Nat.mul_eq_zero.1 hn).resolve_right (by omega)
  subst hn
  subst hx
  have hv:∃base m cap,v=.slice base m cap∧m≤cap:=by
   rcases hown.2 with ⟨e1,e2⟩ | ⟨g,cap,cur,e1,_,e3,e4,e5,e6,e7⟩
   · exact⟨_,_,_,e1,Nat.le_refl _⟩
   · exact⟨_,_,_,e1,e4⟩
  obtain⟨base,m',cap,hv,hle⟩:=hv
  refine⟨v,w,?_,⟨rfl,rfl,rfl,Nat.le_refl _,fun _ _ _=>rfl⟩,.inl rfl,by simpa using hown⟩
  rw[hv]
  exact run_append_none hdesc h1 base m' cap c hle
 | some ad=>
  have hmax:m+n≤maxLen:=by
   have h6:(m+n)*1≤(m+n)*(T.at_ e).bytes:=Nat.mul_le_mul_left _ hb
   simp only[maxLen]
   omega
  have hzc:z.cells.size=sz:=by
   have h7:=VLs.length _ _ (h5 (fun _=>False) w (fun _=>⟨none,0,[]⟩) (fun _=>.none))
   rw[←Array.length_toList,h7,(hT e (known_d hk)).zl,hsz]
  obtain⟨v',w',r1,r2,r3,r4,r5⟩:=run_append_own_at (P:=P) w 0 ts ty e i z sz (T.at_ e).bytes hdesc h1 h4 (h2.trans hsz) h3 hzc hpos v m cs hown ad n c news hn.symm (fun j u hj=>by obtain⟨ad',q1,q2⟩:=hnews j u hj;cases q1;exact q2) hone hmax hbytes (Nat.zero_le _)
  subst hx
  refine⟨v',w',r1,r3,?_,r2⟩
  rcases r5 with q | q
  · exact .inl q
  · refine .inr ⟨_,q,Nat.le_refl _,?_⟩
    exact (World.ownsRow.lt r2 _ q).2
theorem ownedO_of (h:Rel M S0 w0 S β H w) {k:Nat} {e:TypeId} {t:Ty} {xs:List t.den} (hk:H k=.orow e t xs) :
 ∃cs,CatO S w t xs cs (β k).more∧w.ownsRow 0 e t.size (rowV (β k) xs.length) xs.length cs∧(rowV (β k) xs.length).ownBlock=(β k).g∧(β k).more.Nodup∧(∀g,(β k).g=some g→g∉(β k).more) ∧
  ∃ao c,rowV (β k) xs.length=.slice ao xs.length c∧∀j u,cs[j]? = some u→∃ad,ao=some ad∧w.cell? (ad.add j)=some u:=by
 have hob:=h.ob k
 rw[hk] at hob
 rcases hob with ⟨e2,e3,e4⟩ | ⟨g,cur,e2,e3,e4,e5,e6,e7,e8⟩
 · subst e3
   have:rowV (β k) ([]:List t.den).length=.slice none 0 0:=by unfold rowV;rw[e2]
   refine⟨[],⟨rfl,e4⟩,?_,?_,by rw[e4];exact List.nodup_nil,(fun g hg=>by rw[e2] at hg;cases hg),none,0,this,fun j u hj=>by simp at hj⟩
   · rw[this];exact World.ownsRow_nil _ _ _ _
   · rw[this,e2];rfl
 · refine⟨_,e7,⟨CatO.length _ _ _ e7,.inr ⟨g,(β k).cap,cur,rowV_some e2,Nat.zero_le _,e3,e4,e5,e6,rfl⟩⟩,?_,(List.nodup_cons.1 e8).2,(fun g' hg' => ?_),some ⟨g,0,none⟩,(β k).cap,rowV_some e2,fun j u hj=>⟨_,rfl,?_⟩⟩
   · rw[rowV_some e2,e2];rfl
   · rw[e2] at hg';cases hg';exact (List.nodup_cons.1 e8).1
   · rw[add_lit,cell_of_row w g _ _ _ _ e3]
     rw[List.getElem?_take] at hj
     split at hj
     · simpa using hj
     · cases hj
end
end Go.Proofs.YtkpjcmiijlpcaaaGreat.Aw
