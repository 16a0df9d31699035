/- An abstract program logic over the model, twelfth part: the operations over slices; the le. -/
import Derived.Test.YtkpjcmiijlpcaaaDoorAwK
import Derived.Lib.AppendZerosOnto
import Derived.Laws.BytesString
namespace Go.Proofs.YtkpjcmiijlpcaaaDoor.Aw
open Go
section
variable {P:Program} {T:Tab} {env:Env} {M S0:Nat→Prop} {w0:World} {S:Nat→Prop} {β:Nat→Cr} {H:Nat→Ob} {w:World} {o:Oper} {a:Act} {ev:Operand→AV} {nid:Nat} {r:Res}
theorem run_slice_desc {t e:TypeId} (hT:TabOk P T) (hd:(T.at_ t).d=.slice e):P.underlying t=some (.slice e):=by
 have h:=(hT t (by rw[hd];simp)).desc
 unfold DescOk at h
 rw[hd] at h
 exact h
theorem own_apart (h:Rel M S0 w0 S β H w) {k:Nat} (hk:(H k).live=true):∀b,S b→b<w.heap.size∧some b≠(β k).g:=fun b hb=>
 ⟨(h.sS b hb).1,fun e=>(h.own k b hk (.inl e.symm)).2.2 hb⟩
theorem append_tight (hT:TabOk P T) {ts ty e:TypeId} (hd:(T.at_ ts).d=.slice e) {t:Ty} (hsz:(T.at_ e).size=t.size) (hk:(T.at_ e).known=true) (hb:0<(T.at_ e).bytes)
 {bd:Addr} {xs zs:List t.den} {cs:List Value} (hc1:Cat (DR S w t) xs cs) (holds:∀j u,cs[j]? = some u→w.cell? (bd.add j)=some u)
 {ad:Addr} {n c:Nat} {news:List Value} (hn:n=zs.length) (hc2:Cat (DR S w t) zs news) (hnews:∀j u,news[j]? = some u→w.cell? (ad.add j)=some u) (hz0:0<zs.length)
 (hbytes:(xs.length+zs.length)*(T.at_ e).bytes≤140737488355328) (hS:∀b,S b→b<w.heap.size) :
 ∃v' w',(Builtin.append_ #[ts,ts] ty #[.slice (some bd) xs.length xs.length,.slice (some ad) n c]).run P w=.ok v' w'∧w.grownBy w' none∧(∃g,v'.ownBlock=some g∧w.heap.size≤g∧g<w'.heap.size) ∧
  ∃cs',w'.ownsRow 0 e t.size v' (xs++zs).length cs'∧Cat (DR S w' t) (xs++zs) cs':=by
 obtain⟨i,h1,h2,h3,z,h4,h5⟩:=(hT e (known_d hk)).info
 have hdesc:=(hT ts (by rw[hd];simp)).desc
 unfold DescOk at hdesc
 rw[hd] at hdesc
 have hl:=Cat.length (DR.length t) _ _ hc2
 have hlo:=Cat.length (DR.length t) _ _ hc1
 have hmax:xs.length+n≤maxLen:=by
  have h6:(xs.length+zs.length)*1≤(xs.length+zs.length)*(T.at_ e).bytes:=Nat.mul_le_mul_left _ hb
  simp only[maxLen]
  omega
 have hzc:z.cells.size=t.size:=by
  have h7:=VLs.length _ _ (h5 S w (fun _=>⟨none,0,[]⟩) (fun _=>.none))
  rw[←Array.length_toList,h7,(hT e (known_d hk)).zl,hsz]
 have his:i.size=t.size:=h2.trans hsz
 have hsmall:xs.length+n≤9223372036854775807:=by simp only[maxLen] at hmax;omega
 have hr:=run_append_grow (P:=P) w ts ty e i z hdesc h1 h4 bd xs.length xs.length cs (by rw[hlo,his]) holds ad n c news (by rw[hl,his,hn]) hnews (by omega) (by omega) (growslice_fits (by omega) (by rw[h3,hn];exact hbytes))
 have hge:=grownCap_ge w (xs.length+n) xs.length e
 have hcm:grownCap w (xs.length+n) xs.length e≤maxLen:=grownCap_le_maxLen w (xs.length+n) xs.length e hmax
 have hgr:w.grownBy (w.drew.alloc (.cells (cs.toArray++news.toArray++Builtin.zeroCells z.cells (grownCap w (xs.length+n) xs.length e-(xs.length+n))) e)) none:=⟨rfl,rfl,rfl,by simp,fun k hk _=>heap_alloc_old w.drew _ hk⟩
 refine⟨_,_,hr,hgr,⟨_,rfl,Nat.le_refl _,by simp⟩,cs++news,⟨?_,.inr ⟨w.heap.size,_,_,?_,Nat.zero_le _,heap_alloc_new w.drew _,?_,hcm,?_,?_⟩⟩,Cat.append _ _ _ _ (Cat.dr_mono (fun b hb=>⟨hb,hgr.block b (hS b hb) (by simp)⟩) hc1) (Cat.dr_mono (fun b hb=>⟨hb,hgr.block b (hS b hb) (by simp)⟩) hc2)⟩
 · rw[List.length_append,List.length_append,hl,hlo,Nat.add_mul]
 · rw[List.length_append,hn]
 · rw[List.length_append,←hn];exact hge
 · simp only[Array.size_append,List.size_toArray,size_zeroCells,hzc,hlo,hl,←hn,←Nat.add_mul]
   congr 1
   omega
 · simp only[Array.toList_append,List.append_assoc]
   rw[←List.append_assoc,←(show (cs++news).length=(xs++zs).length*t.size by rw[List.length_append,List.length_append,hl,hlo,Nat.add_mul])]
   exact List.take_left
theorem made_succ (z:Array Value) (hp:0<z.size) (n:Nat):((Array.range ((n+1)*z.size)).map (z[· % z.size]!)).toList=((Array.range (n*z.size)).map (z[· % z.size]!)).toList++z.toList:=by
 apply List.ext_getElem
 · simp[Nat.add_mul]
 · intro i h1 h2
   simp only[Array.getElem_toList,Array.getElem_map,Array.getElem_range]
   by_cases hi:i<n*z.size
   · rw[List.getElem_append_left (by simpa using hi)]
     simp
   · rw[List.getElem_append_right (by simp;omega)]
     have h3:i<(n+1)*z.size:=by simpa using h1
     rw[Nat.add_mul] at h3
     have hm:i % z.size=i-n*z.size:=by
      rw[show i=(i-n*z.size)+z.size*n by rw[Nat.mul_comm z.size n];omega,Nat.add_mul_mod_self_left,Nat.mod_eq_of_lt (by omega),Nat.mul_comm z.size n]
      omega
     simp only[hm]
     simp only[Array.length_toList,Array.size_map,Array.size_range,Array.getElem_toList]
     rw[getElem!_pos z (i-n*z.size) (by omega)]
theorem cat_made {ty:Ty} {z:Array Value} {x:ty.den} (h:DR S w ty x z.toList) (hp:0<z.size):∀n:Nat,Cat (DR S w ty) (List.replicate n x) (((Array.range (n*z.size)).map (z[· % z.size]!)).toList)
 | 0=>by simp[Cat]
 | n+1=>by
  rw[made_succ z hp n,List.replicate_succ']
  exact Cat.append _ _ _ _ (cat_made h hp n) ⟨_,[],by simp,h,rfl⟩
theorem append_zeros (hT:TabOk P T) {ts tn ty e:TypeId} {kn kq:IntKind} (hd:(T.at_ ts).d=.slice e) (htn:P.underlying tn=some (.int kn)) {t:Ty} (hsz:(T.at_ e).size=t.size) (hpos:0<t.size) (hk:(T.at_ e).known=true) (hb:0<(T.at_ e).bytes)
 {bd:Addr} {xs:List t.den} {cs:List Value} (hc1:Cat (DR S w t) xs cs) (holds:∀j u,cs[j]? = some u→w.cell? (bd.add j)=some u)
 {z:t.den} (hz:dec1 t (T.at_ e).zero=some z) {n:Nat} (hz0:0<n)
 (hbytes:(xs.length+n)*(T.at_ e).bytes≤140737488355328) (hS:∀b,S b→b<w.heap.size) :
 ∃v' w',(Builtin.append_ #[ts,tn] ty #[.slice (some bd) xs.length xs.length,.int kq n]).run P w=.ok v' w'∧w.grownBy w' none∧(∃g,v'.ownBlock=some g∧w.heap.size≤g∧g<w'.heap.size) ∧
  ∃cs',w'.ownsRow 0 e t.size v' (xs++List.replicate n z).length cs'∧Cat (DR S w' t) (xs++List.replicate n z) cs':=by
 obtain⟨i,h1,h2,h3,zv,h4,h5⟩:=(hT e (known_d hk)).info
 have hdesc:=(hT ts (by rw[hd];simp)).desc
 unfold DescOk at hdesc
 rw[hd] at hdesc
 have hlo:=Cat.length (DR.length t) _ _ hc1
 have hmax:xs.length+n≤maxLen:=by
  have h6:(xs.length+n)*1≤(xs.length+n)*(T.at_ e).bytes:=Nat.mul_le_mul_left _ hb
  simp only[maxLen]
  omega
 have hzc:zv.cells.size=t.size:=by
  have h7:=VLs.length _ _ (h5 S w (fun _=>⟨none,0,[]⟩) (fun _=>.none))
  rw[←Array.length_toList,h7,(hT e (known_d hk)).zl,hsz]
 have his:i.size=t.size:=h2.trans hsz
 have hsmall:xs.length+n≤9223372036854775807:=by simp only[maxLen] at hmax;omega
 obtain⟨news,hnews⟩:∃news,news=(Builtin.zeroCells zv.cells n).toList:=⟨_,rfl⟩
 have hc2:Cat (DR S w t) (List.replicate n z) news:=by
  rw[hnews]
  exact cat_made (dec1_of (h5 S w (fun _=>⟨none,0,[]⟩) (fun _=>.none)) hz) (by omega) n
 have hl:=Cat.length (DR.length t) _ _ hc2
 rw[List.length_replicate] at hl
 have hnb:n*i.bytes≤281474976710656:=by
  have h6:n*(T.at_ e).bytes≤(xs.length+n)*(T.at_ e).bytes:=Nat.mul_le_mul_right _ (by omega)
  rw[h3];omega
 have hr:=Lib.run_append_grow_zeros (P:=P) w ts tn ty e i zv kq kn hdesc htn h1 h4 (some bd) xs.length xs.length cs (run_firstCells_some (P:=P) w.drew i.size xs.length bd xs.length xs.length cs (by rw[hlo,his]) (by simpa using holds)) n hz0 (by omega) (by omega) (by omega) hnb (growslice_fits (by omega) (by rw[h3];exact hbytes))
 have hge:=grownCap_ge w (xs.length+n) xs.length e
 have hcm:grownCap w (xs.length+n) xs.length e≤maxLen:=grownCap_le_maxLen w (xs.length+n) xs.length e hmax
 have hzn:Builtin.zeroCells zv.cells n=news.toArray:=by rw[hnews]
 rw[hzn] at hr
 have hgr:w.grownBy (w.drew.alloc (.cells (cs.toArray++news.toArray++Builtin.zeroCells zv.cells (grownCap w (xs.length+n) xs.length e-(xs.length+n))) e)) none:=⟨rfl,rfl,rfl,by simp,fun k hk _=>heap_alloc_old w.drew _ hk⟩
 refine⟨_,_,hr,hgr,⟨_,rfl,Nat.le_refl _,by simp⟩,cs++news,⟨?_,.inr ⟨w.heap.size,_,_,?_,Nat.zero_le _,heap_alloc_new w.drew _,?_,hcm,?_,?_⟩⟩,Cat.append _ _ _ _ (Cat.dr_mono (fun b hb=>⟨hb,hgr.block b (hS b hb) (by simp)⟩) hc1) (Cat.dr_mono (fun b hb=>⟨hb,hgr.block b (hS b hb) (by simp)⟩) hc2)⟩
 · rw[List.length_append,List.length_append,hl,hlo,List.length_replicate,Nat.add_mul]
 · rw[List.length_append,List.length_replicate]
 · rw[List.length_append,List.length_replicate];exact hge
 · simp only[Array.size_append,List.size_toArray,size_zeroCells,hzc,hlo,hl,←Nat.add_mul]
   congr 1
   omega
 · simp only[Array.toList_append,List.append_assoc]
   rw[←List.append_assoc,←(show (cs++news).length=(xs++List.replicate n z).length*t.size by rw[List.length_append,List.length_append,hl,hlo,List.length_replicate,Nat.add_mul])]
   exact List.take_left
theorem s_appendZ {c0:Call} {s x:Operand} {t tn:TypeId} (ho:o.op=.call c0) (hcal:c0.callee=.builtin .append) (hargs:c0.args.toList=[s,x]) (hty:c0.argTypes.toList=[t,tn]) (c:Cx P T M S0 w0 S β H w a ev nid r) (hs:semAppendZ T nid t tn (ev s) (ev x)=some r):Goes P M S0 w0 S β H w o a r:=by
 have key:∀ {v:Value} {w':World},(Builtin.append_ #[t,tn] o.type #[a.eval s,a.eval x]).run P w=.ok v w'→∀(next:Act→World→Prop) (Q:Exit→Act→World→Prop),next (a.put o.dst v) w'→o.wp P a w next Q:=by
  intro v w' hr next Q hn
  have e1:c0.args = #[s,x]:=by apply Array.toList_inj.1;rw[hargs]
  have e2:c0.argTypes = #[t,tn]:=by apply Array.toList_inj.1;rw[hty]
  unfold Oper.wp execOp
  simp only[ho,hcal,resolve,invoke,builtin,Sem.run_bind,Sem.run_pure,Result.andThen_ok,e1,e2,List.map_toArray,List.map_cons,List.map_nil,hr]
  exact hn
 unfold semAppendZ at hs
 split at hs
 rotate_left
 · cases hs
 rename_i e1 t1 xs kq k hts htx
 split at hs
 rotate_left
 · cases hs
 rename_i e kn hd hdn htn
 split at hs
 rotate_left
 · cases hs
 rename_i z hz
 split at hs
 rotate_left
 · cases hs
 rename_i h1
 obtain⟨rfl,hsz,hpos,hk,hb⟩:=h1
 simp only[Option.some.injEq] at hs
 have hg:=c.hgs ((xs.length+k.toNat)*(T.at_ e1).bytes≤140737488355328) (by rw[←hs];simp)
 have hm0:=c.hgs (0<xs.length) (by rw[←hs];simp)
 have hz0:=c.hgs (0<k) (by rw[←hs];simp)
 have hun:P.underlying tn=some (.int kn):=by
  have h:=(c.hT tn (by rw[hdn];simp)).desc
  unfold DescOk at h
  rw[hdn] at h
  obtain⟨d,q1,_,q2,_⟩:=h
  rw[q1,q2 kn htn]
 have hx:=VL.int (by rw[←htx];exact c.hev x)
 obtain⟨n,rfl⟩:∃n:Nat,k=n:=⟨k.toNat,by omega⟩
 rw[Int.toNat_natCast] at hg
 have hv:=c.hev s
 rw[hts] at hv
 obtain⟨u,e2,hv,a0,n0,hv0⟩:=hv
 have e2:=(List.cons.inj e2).1
 obtain⟨aoo,m,cc',news',z1,z2,z3,z4,z5,z6⟩:=hv
 have z1:=(List.cons.inj z1).1
 rw[hv0] at z1
 cases z1
 have hnl:0<news'.length:=by rw[Cat.length (DR.length t1) _ _ z4];exact Nat.mul_pos hm0 hpos
 obtain⟨bd,hbd⟩:∃bd,a0=some bd:=by
  obtain⟨ad',q,_⟩:=z5 0 _ (List.getElem?_eq_getElem hnl)
  exact⟨ad',q⟩
 subst hbd
 obtain⟨v',w',r1,r2,r3,cs',r4,r5⟩:=append_zeros (ty:=o.type) (kq:=kq) (S:=S) (w:=w) c.hT hd hun hsz hpos hk hb z4 (fun j u' hj=>by obtain⟨ad',q1,_,q2⟩:=z5 j u' hj;cases q1;exact q2) hz (n:=n) (by omega) hg (fun b hb=>(c.rel.sS b hb).1)
 have hd:=dr_of (run_drawn _ _ _ _ _ r1)
 obtain⟨cr,q1,q2,q3,qm⟩:=row_of (β':=β) (H':=H) r4 r5
 have hnn:H nid=.none:=c.fresh (by rw[←hs];simp)
 obtain⟨hr,hx'⟩:=c.rel.born nid hnn cr (.row e1 t1 (xs++List.replicate n z)) r2 (by
  intro g hgc
  have hgc:cr.g=some g:=hgc.elim id fun hh=>by rw[qm] at hh;cases hh
  rw[q3] at hgc
  obtain⟨g',h3,h4,h5⟩:=r3
  rw[hgc] at h3
  cases h3
  exact⟨h4,h5⟩) (by
  intro β' H' hx
  exact q2)
 intro next Q hn
 rw[e2,hv0,hx,z2] at key
 refine key r1 next Q (hn v' w' S (setC β nid cr) ?_ ?_ ?_)
 · rw[←hs];exact hr
 · rw[←hs]
   refine⟨_,rfl,?_⟩
   simp only[leaf,updH_one,setC_one]
   exact q1
 · rw[←hs];exact hx'
theorem s_append {c0:Call} {s x:Operand} {t:TypeId} (ho:o.op=.call c0) (hcal:c0.callee=.builtin .append) (hargs:c0.args.toList=[s,x]) (hty:c0.argTypes.toList=[t,t]) (c:Cx P T M S0 w0 S β H w a ev nid r) (hs:semAppend T H nid t (ev s) (typed T t (ev x))=some r):Goes P M S0 w0 S β H w o a r:=by
 have key:∀ {v:Value} {w':World},(Builtin.append_ #[t,t] o.type #[a.eval s,a.eval x]).run P w=.ok v w'→∀(next:Act→World→Prop) (Q:Exit→Act→World→Prop),next (a.put o.dst v) w'→o.wp P a w next Q:=by
  intro v w' hr next Q hn
  have e1:c0.args = #[s,x]:=by apply Array.toList_inj.1;rw[hargs]
  have e2:c0.argTypes = #[t,t]:=by apply Array.toList_inj.1;rw[hty]
  unfold Oper.wp execOp
  simp only[ho,hcal,resolve,invoke,builtin,Sem.run_bind,Sem.run_pure,Result.andThen_ok,e1,e2,List.map_toArray,List.map_cons,List.map_nil,hr]
  exact hn
 unfold semAppend at hs
 split at hs
 rotate_left
 · cases hs
 rename_i e hd
 split at hs
 rotate_left
 · cases hs
 rename_i ty e' t' ys hte hel
 split at hs
 rotate_left
 · cases hs
 rename_i hc
 obtain⟨rfl,rfl,hsz,hpos,hk,hb⟩:=hc
 obtain⟨ao,n,cc,news,x1,x2,x3,x4,x5⟩:=elems_of c.rel (VL.typed (c.hev x)) hel
 simp only at hs
 split at hs
 · rename_i k hts
   split at hs
   rotate_left
   · cases hs
   rename_i e1 t1 xs hHk
   split at hs
   rotate_left
   · cases hs
   rename_i h1
   obtain⟨rfl,rfl⟩:=h1
   simp only[Option.some.injEq] at hs
   have hg:=c.hgs ((xs.length+ys.length)*(T.at_ e1).bytes≤140737488355328) (by rw[←hs];simp)
   have hlive:(H k).live=true:=by rw[hHk];rfl
   obtain⟨cs,o1,o2,o3⟩:=owned_of c.rel hHk
   have hv:=VL.typed (T:=T) (ty:=t) (c.hev s)
   rw[hts] at hv
   obtain⟨u,e2,hv⟩:=hv
   cases e2
   simp only[leaf,hHk] at hv
   obtain⟨v',w',r1,r2,r3,cs',r4,r5⟩:=append_of (ty:=o.type) c.hT hd hsz hpos hk hb o2 o1 x1 x2 x4 x5 hg (by rw[o3];exact own_apart c.rel hlive)
   have hd:=dr_of (run_drawn _ _ _ _ _ r1)
   obtain⟨cr,q1,q2,q3,qm⟩:=row_of (β':=β) (H':=H) r4 r5
   have hnn:H nid=.none:=c.fresh (by rw[←hs];simp)
   rw[o3] at r2 r3
   obtain⟨hr,hx⟩:=c.rel.move k nid hlive hnn cr (.row e1 t1 (xs++ys)) qm r2 (by
    intro g hgc
    rw[q3] at hgc
    rcases r3 with h3 | ⟨g',h3,h4,h5⟩
    · rw[hgc] at h3
      exact⟨.inl h3,Nat.lt_of_lt_of_le (c.rel.own k g hlive (.inl h3.symm)).2.1 r2.size⟩
    · rw[hgc] at h3
      cases h3
      exact⟨.inr h4,h5⟩) (by
    intro β' H' hx
    exact q2)
   intro next Q hn
   rw[hv] at key
   refine key r1 next Q (hn v' w' S (setC β nid cr) ?_ ?_ ?_)
   · rw[←hs];exact hr
   · rw[←hs]
     refine⟨_,rfl,?_⟩
     have hne:(nid==k)=false:=by
      simp only[beq_eq_false_iff_ne,ne_eq]
      intro e
      rw[←e,hnn] at hlive
      cases hlive
     have hu:updH H [(k,.dead),(nid,.row e1 t1 (xs++ys))] nid=.row e1 t1 (xs++ys):=by simp[updH,List.lookup,hne]
     simp only[leaf,hu,setC_one]
     exact q1
   · rw[←hs];exact hx
 · rename_i e1 t1 hts
   split at hs
   rotate_left
   · cases hs
   rename_i h1
   obtain⟨rfl,rfl⟩:=h1
   simp only[Option.some.injEq] at hs
   have hg:=c.hgs (ys.length*(T.at_ e1).bytes≤140737488355328) (by rw[←hs];simp)
   have hv:=VL.typed (T:=T) (ty:=t) (c.hev s)
   rw[hts] at hv
   obtain⟨u,e2,hv⟩:=hv
   cases e2
   simp only[leaf] at hv
   obtain⟨v',w',r1,r2,r3,cs',r4,r5⟩:=append_of (ty:=o.type) (v:=.slice none 0 0) (xs:=[]) (cs:=[]) c.hT hd hsz hpos hk hb (World.ownsRow_nil _ _ _ _) rfl x1 x2 x4 x5 (by simpa using hg) (fun b hb=>⟨(c.rel.sS b hb).1,by simp[Value.ownBlock]⟩)
   have hd:=dr_of (run_drawn _ _ _ _ _ r1)
   rw[List.nil_append] at r4 r5
   obtain⟨cr,q1,q2,q3,qm⟩:=row_of (β':=β) (H':=H) r4 r5
   have hnn:H nid=.none:=c.fresh (by rw[←hs];simp)
   obtain⟨hr,hx⟩:=c.rel.born nid hnn cr (.row e1 t1 ys) r2 (by
    intro g hgc
    have hgc:cr.g=some g:=hgc.elim id fun hh=>by rw[qm] at hh;cases hh
    rw[q3] at hgc
    rcases r3 with h3 | ⟨g',h3,h4,h5⟩
    · rw[hgc] at h3
      cases h3
    · rw[hgc] at h3
      cases h3
      exact⟨h4,h5⟩) (by
    intro β' H' hx
    exact q2)
   intro next Q hn
   rw[hv] at key
   refine key r1 next Q (hn v' w' S (setC β nid cr) ?_ ?_ ?_)
   · rw[←hs];exact hr
   · rw[←hs]
     refine⟨_,rfl,?_⟩
     simp only[leaf,updH_one,setC_one]
     exact q1
   · rw[←hs];exact hx
 · rename_i e1 t1 xs hts
   split at hs
   rotate_left
   · cases hs
   rename_i h1
   obtain⟨rfl,rfl⟩:=h1
   simp only[Option.some.injEq] at hs
   have hg:=c.hgs ((xs.length+ys.length)*(T.at_ e1).bytes≤140737488355328) (by rw[←hs];simp)
   have hm0:=c.hgs (0<xs.length) (by rw[←hs];simp)
   have hz0:=c.hgs (0<ys.length) (by rw[←hs];simp)
   have hv:=VL.typed (T:=T) (ty:=t) (c.hev s)
   rw[hts] at hv
   obtain⟨u,e2,hv,a0,n0,hv0⟩:=hv
   cases e2
   obtain⟨aoo,m,cc',news',z1,z2,z3,z4,z5,z6⟩:=hv
   have z1:=(List.cons.inj z1).1
   rw[hv0] at z1
   cases z1
   have hnl:0<news'.length:=by rw[Cat.length (DR.length t1) _ _ z4];exact Nat.mul_pos hm0 hpos
   obtain⟨bd,hbd⟩:∃bd,a0=some bd:=by
    obtain⟨ad',q,_⟩:=z5 0 _ (List.getElem?_eq_getElem hnl)
    exact⟨ad',q⟩
   subst hbd
   have hnl2:0<news.length:=by rw[Cat.length (DR.length t1) _ _ x4];exact Nat.mul_pos hz0 hpos
   obtain⟨ad,had⟩:∃ad,ao=some ad:=by
    obtain⟨ad',q,_⟩:=x5 0 _ (List.getElem?_eq_getElem hnl2)
    exact⟨ad',q⟩
   subst had
   obtain⟨v',w',r1,r2,r3,cs',r4,r5⟩:=append_tight (ty:=o.type) (S:=S) (w:=w) c.hT hd hsz hk hb z4 (fun j u' hj=>by obtain⟨ad',q1,_,q2⟩:=z5 j u' hj;cases q1;exact q2) (c:=cc) x2 x4 (fun j u' hj=>by obtain⟨ad',q1,q2⟩:=x5 j u' hj;cases q1;exact q2) hz0 hg (fun b hb=>(c.rel.sS b hb).1)
   have hd:=dr_of (run_drawn _ _ _ _ _ r1)
   obtain⟨cr,q1,q2,q3,qm⟩:=row_of (β':=β) (H':=H) r4 r5
   have hnn:H nid=.none:=c.fresh (by rw[←hs];simp)
   obtain⟨hr,hx⟩:=c.rel.born nid hnn cr (.row e1 t1 (xs++ys)) r2 (by
    intro g hgc
    have hgc:cr.g=some g:=hgc.elim id fun hh=>by rw[qm] at hh;cases hh
    rw[q3] at hgc
    obtain⟨g',h3,h4,h5⟩:=r3
    rw[hgc] at h3
    cases h3
    exact⟨h4,h5⟩) (by
    intro β' H' hx
    exact q2)
   intro next Q hn
   rw[hv0,z2,x1] at key
   refine key r1 next Q (hn v' w' S (setC β nid cr) ?_ ?_ ?_)
   · rw[←hs];exact hr
   · rw[←hs]
     refine⟨_,rfl,?_⟩
     simp only[leaf,updH_one,setC_one]
     exact q1
   · rw[←hs];exact hx
 · rename_i k lo m e1 t1 hts
   split at hs
   rotate_left
   · cases hs
   rename_i e2' cs2 xs hHk hvw
   split at hs
   rotate_left
   · cases hs
   rename_i h1
   obtain⟨rfl,rfl⟩:=h1
   simp only[Option.some.injEq] at hs
   have hg:=c.hgs ((xs.length+ys.length)*(T.at_ e1).bytes≤140737488355328) (by rw[←hs];simp)
   have hm0:=c.hgs (0<m) (by rw[←hs];simp)
   have hz0:=c.hgs (0<ys.length) (by rw[←hs];simp)
   have hv:=VL.typed (T:=T) (ty:=t) (c.hev s)
   rw[hts] at hv
   obtain⟨u,e2,hv⟩:=hv
   cases e2
   obtain⟨hlv,aoo,cc',news',z1,z2,z3,z4,z5,z6,z7⟩:=view_of c.rel hv hvw
   have hcap:cc'=m:=Nat.le_antisymm (z7 ⟨_,_,hHk⟩) z3
   subst hcap
   have hnl:0<news'.length:=by rw[Cat.length (DR.length t1) _ _ z4,←z2];exact Nat.mul_pos hm0 hpos
   obtain⟨bd,hbd⟩:∃bd,aoo=some bd:=by
    obtain⟨ad',q,_⟩:=z5 0 _ (List.getElem?_eq_getElem hnl)
    exact⟨ad',q⟩
   subst hbd
   have hnl2:0<news.length:=by rw[Cat.length (DR.length t1) _ _ x4];exact Nat.mul_pos hz0 hpos
   obtain⟨ad,had⟩:∃ad,ao=some ad:=by
    obtain⟨ad',q,_⟩:=x5 0 _ (List.getElem?_eq_getElem hnl2)
    exact⟨ad',q⟩
   subst had
   obtain⟨v',w',r1,r2,r3,cs',r4,r5⟩:=append_tight (ty:=o.type) (S:=S) (w:=w) c.hT hd hsz hk hb z4 (fun j u' hj=>by obtain⟨ad',q1,_,q2⟩:=z5 j u' hj;cases q1;exact q2) (c:=cc) x2 x4 (fun j u' hj=>by obtain⟨ad',q1,q2⟩:=x5 j u' hj;cases q1;exact q2) hz0 hg (fun b hb=>(c.rel.sS b hb).1)
   have hd:=dr_of (run_drawn _ _ _ _ _ r1)
   obtain⟨cr,q1,q2,q3,qm⟩:=row_of (β':=β) (H':=H) r4 r5
   have hnn:H nid=.none:=c.fresh (by rw[←hs];simp)
   obtain⟨hr,hx⟩:=c.rel.born nid hnn cr (.row e1 t1 (xs++ys)) r2 (by
    intro g hgc
    have hgc:cr.g=some g:=hgc.elim id fun hh=>by rw[qm] at hh;cases hh
    rw[q3] at hgc
    obtain⟨g',h3,h4,h5⟩:=r3
    rw[hgc] at h3
    cases h3
    exact⟨h4,h5⟩) (by
    intro β' H' hx
    exact q2)
   intro next Q hn
   rw[z1,z2,x1] at key
   refine key r1 next Q (hn v' w' S (setC β nid cr) ?_ ?_ ?_)
   · rw[←hs];exact hr
   · rw[←hs]
     refine⟨_,rfl,?_⟩
     simp only[leaf,updH_one,setC_one]
     exact q1
   · rw[←hs];exact hx
 · cases hs
theorem s_appendP {c0:Call} {s x:Operand} {t:TypeId} {k j:Nat} (ho:o.op=.call c0) (hcal:c0.callee=.builtin .append) (hargs:c0.args.toList=[s,x]) (hty:c0.argTypes.toList=[t,t]) (c:Cx P T M S0 w0 S β H w a ev nid r) (es:ev s=.prow k) (ex:ev x=.prow j) (hs:semAppendP T H nid t k j=some r):Goes P M S0 w0 S β H w o a r:=by
 have key:∀ {v:Value} {w':World},(Builtin.append_ #[t,t] o.type #[a.eval s,a.eval x]).run P w=.ok v w'→∀(next:Act→World→Prop) (Q:Exit→Act→World→Prop),next (a.put o.dst v) w'→o.wp P a w next Q:=by
  intro v w' hr next Q hn
  have e1:c0.args = #[s,x]:=by apply Array.toList_inj.1;rw[hargs]
  have e2:c0.argTypes = #[t,t]:=by apply Array.toList_inj.1;rw[hty]
  unfold Oper.wp execOp
  simp only[ho,hcal,resolve,invoke,builtin,Sem.run_bind,Sem.run_pure,Result.andThen_ok,e1,e2,List.map_toArray,List.map_cons,List.map_nil,hr]
  exact hn
 unfold semAppendP at hs
 split at hs
 rotate_left
 · cases hs
 rename_i e e1 xs e2 ys hd hHk hHj
 split at hs
 rotate_left
 · cases hs
 rename_i hc
 obtain⟨rfl,rfl,hsz,hk,hb,a1,a2⟩:=hc
 simp only[Option.some.injEq] at hs
 have hg:=c.hgs ((xs.length+ys.length)*(T.at_ e2).bytes≤140737488355328) (by rw[←hs];simp)
 have hlive:(H k).live=true:=by rw[hHk];rfl
 obtain⟨cs,o1,o2,o3,_⟩:=ownedP_of c.rel hHk
 obtain⟨ds,p1,p2,p3,ao,cc,p4,p5⟩:=ownedP_of c.rel hHj
 have hv:=c.hev s
 rw[es] at hv
 obtain⟨u,e3,hv⟩:=hv
 cases e3
 simp only[leaf,hHk] at hv
 have hx:=c.hev x
 rw[ex] at hx
 obtain⟨u,e3,hx⟩:=hx
 cases e3
 simp only[leaf,hHj] at hx
 obtain⟨v',w',r1,r2,r3,r4⟩:=appendP_of (ty:=o.type) c.hT hd hsz hk hb o2 (hx.trans p4) (VLs.length _ _ p1).symm (VLs.ones _ _ a2 p1) p5 hg
 have hd:=dr_of (run_drawn _ _ _ _ _ r1)
 have hnn:H nid=.none:=c.fresh (by rw[←hs];simp)
 rw[o3] at r2 r3
 have hne:nid≠k:=by intro e;rw[←e,hnn] at hlive;cases hlive
 obtain⟨cr,hcr⟩:∃cr:Cr,v'=rowV cr (xs++ys).length∧cr.g=v'.ownBlock∧cr.more=[]∧((cr.g=none∧xs++ys=[])∨∃g cur,cr.g=some g∧w'.heap[g]? = some (.cells cur e2 (0,0))∧(xs++ys).length≤cr.cap∧cr.cap≤maxLen∧cur.size=cr.cap∧cur.toList.take (xs++ys).length=cs++ds):=by
  have r4':=r4
  rw[←List.length_append] at r4'
  rcases r4'.2 with ⟨e1,e2⟩ | ⟨g,cap,cur,e1,_,e3,e4,e5,e6,e7⟩
  · exact⟨⟨none,0,[]⟩,by rw[e1];rfl,by rw[e1];rfl,rfl,.inl ⟨rfl,List.eq_nil_of_length_eq_zero e2⟩⟩
  · subst e1
    exact⟨⟨some g,cap,[]⟩,rfl,rfl,rfl,.inr ⟨g,cur,rfl,e3,e4,e5,by rw[e6,Nat.mul_one],by rw[Nat.mul_one] at e7;exact e7⟩⟩
 obtain⟨q1,q3,qm,q2⟩:=hcr
 obtain⟨hr,hx⟩:=c.rel.move k nid hlive hnn cr (.prow e2 (xs++ys)) qm r2 (by
  intro g hgc
  rw[q3] at hgc
  rcases r3 with h3 | ⟨g',h3,h4,h5⟩
  · rw[hgc] at h3
    exact⟨.inl h3,Nat.lt_of_lt_of_le (c.rel.own k g hlive (.inl h3.symm)).2.1 r2.size⟩
  · rw[hgc] at h3
    cases h3
    exact⟨.inr h4,h5⟩) (by
  intro β' H' hx
  rcases q2 with q2 | ⟨g,cur,g1,g2,g3,g4,g5,g6⟩
  · exact .inl q2
  · exact .inr ⟨g,cur,g1,g2,g3,g4,g5,by rw[g6];exact VLs.append _ _ _ _ (VLs.ext hx _ _ o1) (VLs.ext hx _ _ p1)⟩)
 intro next Q hn
 rw[hv] at key
 refine key r1 next Q (hn v' w' S (setC β nid cr) ?_ ?_ ?_)
 · rw[←hs];exact hr
 · rw[←hs]
   refine⟨_,rfl,?_⟩
   have hne:(nid==k)=false:=by simpa using hne
   have hu:updH H [(k,.dead),(nid,.prow e2 (xs++ys))] nid=.prow e2 (xs++ys):=by simp[updH,List.lookup,hne]
   simp only[leaf,hu,setC_one]
   exact q1
 · rw[←hs];exact hx
theorem s_appendO {c0:Call} {s x:Operand} {t:TypeId} {k j:Nat} (ho:o.op=.call c0) (hcal:c0.callee=.builtin .append) (hargs:c0.args.toList=[s,x]) (hty:c0.argTypes.toList=[t,t]) (c:Cx P T M S0 w0 S β H w a ev nid r) (es:ev s=.row k) (ex:ev x=.row j) (hs:semAppendO T H nid t k j=some r):Goes P M S0 w0 S β H w o a r:=by
 have key:∀ {v:Value} {w':World},(Builtin.append_ #[t,t] o.type #[a.eval s,a.eval x]).run P w=.ok v w'→∀(next:Act→World→Prop) (Q:Exit→Act→World→Prop),next (a.put o.dst v) w'→o.wp P a w next Q:=by
  intro v w' hr next Q hn
  have e1:c0.args = #[s,x]:=by apply Array.toList_inj.1;rw[hargs]
  have e2:c0.argTypes = #[t,t]:=by apply Array.toList_inj.1;rw[hty]
  unfold Oper.wp execOp
  simp only[ho,hcal,resolve,invoke,builtin,Sem.run_bind,Sem.run_pure,Result.andThen_ok,e1,e2,List.map_toArray,List.map_cons,List.map_nil,hr]
  exact hn
 unfold semAppendO at hs
 split at hs
 rotate_left
 · cases hs
 rename_i e e1 t1 xs e2 t2 ys hd hHk hHj
 split at hs
 rotate_left
 · cases hs
 rename_i hcond
 obtain⟨rfl,rfl,rfl,hsz,hpos,hk,hb,hkj⟩:=hcond
 simp only[Option.some.injEq] at hs
 have hg:=c.hgs ((xs.length+ys.length)*(T.at_ e2).bytes≤140737488355328) (by rw[←hs];simp)
 have hkl:(H k).live=true:=by rw[hHk];rfl
 have hjl:(H j).live=true:=by rw[hHj];rfl
 obtain⟨cs,o1,o2,o3,o4,o5,_⟩:=ownedO_of c.rel hHk
 obtain⟨ds,p1,p2,p3,p4,p5,ao,cc,p6,p7⟩:=ownedO_of c.rel hHj
 have hv:=c.hev s
 rw[es] at hv
 obtain⟨u1,e3,hv⟩:=hv
 simp only[List.cons.injEq,and_true] at e3
 simp only[leaf,hHk] at hv
 have hx:=c.hev x
 rw[ex] at hx
 obtain⟨u2,e4,hx⟩:=hx
 simp only[List.cons.injEq,and_true] at e4
 simp only[leaf,hHj] at hx
 obtain⟨v',w',r1,r2,r3,r4⟩:=appendN_of (ty:=o.type) c.hT hd hsz hpos hk hb o2 (hx.trans p6) (CatO.length _ _ _ p1).symm (CatO.oneCell _ _ _ p1) p7 hg
 have hd:=dr_of (run_drawn _ _ _ _ _ r1)
 have hnn:H nid=.none:=c.fresh (by rw[←hs];simp)
 rw[o3] at r2 r3
 have hnk:nid≠k:=by intro q;rw[←q,hnn] at hkl;cases hkl
 have hnj:nid≠j:=by intro q;rw[←q,hnn] at hjl;cases hjl
 let mo:=(β k).more++(β j).more
 have hmo:∀b∈mo,((β k).has b∨(β j).has b)∧b<w.heap.size∧some b≠(β k).g:=by
  intro b hb
  rcases List.mem_append.1 hb with hb | hb
  · exact⟨.inl (.inr hb),(c.rel.own k b hkl (.inr hb)).2.1,fun q=>o5 b q.symm hb⟩
  · exact⟨.inr (.inr hb),(c.rel.own j b hjl (.inr hb)).2.1,fun q=>hkj (c.rel.dis k j b hkl hjl (.inl q.symm) (.inr hb))⟩
 have hnd:mo.Nodup:=by
  show ((β k).more++(β j).more).Nodup
  rw[List.nodup_append]
  exact⟨o4,p4,fun b hb b' hb' q=>hkj (c.rel.dis k j b hkl hjl (.inr hb) (by rw[q];exact .inr hb'))⟩
 have hall:=CatO.append _ _ _ _ _ _ o1 p1
 obtain⟨cr,q1,q2,qm⟩:∃cr:Cr,v'=rowV cr (xs++ys).length∧cr.g=v'.ownBlock∧cr.more=mo∧∀S' β' H',(∀b,S b→S' b∧w'.heap[b]? = w.heap[b]?)→ObR S' w' β' H' cr (.orow e2 t2 (xs++ys)):=by
  rcases r4.2 with ⟨f1,f2⟩ | ⟨g,cap,cur,f1,_,f3,f4,f5,f6,f7⟩
  · have hnil:xs++ys=[]:=List.eq_nil_of_length_eq_zero (by rw[List.length_append];exact f2)
    have hm:mo=[]:=by
     rw[hnil] at hall
     exact hall.2
    refine⟨⟨none,0,mo⟩,by rw[f1];rfl,by rw[f1];rfl,rfl,fun S' β' H' hS=>.inl ⟨rfl,hnil,hm⟩⟩
  · have hgm:g∉mo:=by
     intro hb
     have h3:=hmo g hb
     rw[f1] at r3
     rcases r3 with q | ⟨g',q,q',_⟩
     · exact h3.2.2 q
     · have:g=g':=by simpa [Value.ownBlock] using q
       omega
    refine⟨⟨some g,cap,mo⟩,by rw[List.length_append];exact f1,by rw[f1];rfl,rfl,fun S' β' H' hS=>.inr ⟨g,cur,rfl,f3,by rw[List.length_append];exact f4,f5,f6,?_,List.nodup_cons.2 ⟨hgm,hnd⟩⟩⟩
    have:cur.toList.take ((xs++ys).length*t2.size)=cs++ds:=by
     rw[List.length_append]
     simpa using f7
    rw[this]
    exact CatO.mono hS _ _ _ (fun b hb=>r2.block b (hmo b hb).2.1 (hmo b hb).2.2) hall
 have hHk':updH H [(k,.dead),(j,.dead),(nid,.orow e2 t2 (xs++ys))] k=.dead:=by simp[updH,List.lookup]
 have hHj':updH H [(k,.dead),(j,.dead),(nid,.orow e2 t2 (xs++ys))] j=.dead:=by
  have:(j==k)=false:=by simpa using Ne.symm hkj
  simp[updH,List.lookup,this]
 have hHn:updH H [(k,.dead),(j,.dead),(nid,.orow e2 t2 (xs++ys))] nid=.orow e2 t2 (xs++ys):=by
  have h1:(nid==k)=false:=by simpa using hnk
  have h2:(nid==j)=false:=by simpa using hnj
  simp[updH,List.lookup,h1,h2]
 have hHo:∀q,q≠k→q≠j→q≠nid→updH H [(k,.dead),(j,.dead),(nid,.orow e2 t2 (xs++ys))] q=H q:=by
  intro q h1 h2 h3
  have e1:(q==k)=false:=by simpa using h1
  have e2:(q==j)=false:=by simpa using h2
  have e3:(q==nid)=false:=by simpa using h3
  simp[updH,List.lookup,e1,e2,e3]
 have hcrh:∀b,cr.has b→((β k).has b∨(β j).has b)∨(w.heap.size≤b∧b<w'.heap.size):=by
  intro b hb
  rcases hb with hb | hb
  · rw[q2] at hb
    rcases r3 with q | ⟨g',q,q',q''⟩
    · rw[q] at hb;exact .inl (.inl (.inl hb))
    · rw[q] at hb;cases hb;exact .inr ⟨q',q''⟩
  · rw[qm.1] at hb
    exact .inl (hmo b hb).1
 have alive:∀q,(updH H [(k,.dead),(j,.dead),(nid,.orow e2 t2 (xs++ys))] q).live=true→q≠nid→q≠k∧q≠j∧(H q).live=true∧updH H [(k,.dead),(j,.dead),(nid,.orow e2 t2 (xs++ys))] q=H q:=by
  intro q hl h3
  have h1:q≠k:=fun e=>by rw[e,hHk'] at hl;cases hl
  have h2:q≠j:=fun e=>by rw[e,hHj'] at hl;cases hl
  rw[hHo q h1 h2 h3] at hl
  exact⟨h1,h2,hl,hHo q h1 h2 h3⟩
 have far:∀q b,q≠k→q≠j→(H q).live=true→(β q).has b→cr.has b→False:=by
  intro q b h1 h2 hl hb hb'
  rcases hcrh b hb' with (hb' | hb') | ⟨hb',_⟩
  · exact h1 (c.rel.dis q k b hl hkl hb hb')
  · exact h2 (c.rel.dis q j b hl hjl hb hb')
  · have:=(c.rel.own q b hl hb).2.1;omega
 obtain⟨z1,z2⟩:=Rel.step c.rel (β':=setC β nid cr) (H':=updH H [(k,.dead),(j,.dead),(nid,.orow e2 t2 (xs++ys))]) (w':=w') (fun b=>(β k).g=some b) r2.os r2.tape r2.output r2.size (fun b hb=>⟨k,hkl,.inl hb⟩) (fun b hlt hb=>r2.block b hlt (fun q=>hb q.symm))
  (fun q=>by
   by_cases h3:q=nid
   · subst h3;rw[hnn];trivial
   · rw[setC_other _ _ _ _ h3]
     by_cases h1:q=k
     · subst h1;rw[hHk',hHk];exact .inl rfl
     · by_cases h2:q=j
       · subst h2;rw[hHj',hHj];exact .inl rfl
       · rw[hHo q h1 h2 h3];exact ObExt.refl _ _)
  (fun q b hl hb=>by
   by_cases h3:q=nid
   · subst h3
     rw[setC_one] at hb
     rcases hcrh b hb with (hb | hb) | hb
     · exact .inl ⟨k,hkl,hb⟩
     · exact .inl ⟨j,hjl,hb⟩
     · exact .inr hb
   · rw[setC_other _ _ _ _ h3] at hb
     exact .inl ⟨q,(alive q hl h3).2.2.1,hb⟩)
  (fun q q' b hl hl' hb hb'=>by
   by_cases h3:q=nid
   · by_cases h3':q'=nid
     · rw[h3,h3']
     · rw[setC_other _ _ _ _ h3'] at hb'
       rw[h3,setC_one] at hb
       obtain⟨a1,a2,a3,_⟩:=alive q' hl' h3'
       exact (far q' b a1 a2 a3 hb' hb).elim
   · rw[setC_other _ _ _ _ h3] at hb
     obtain⟨a1,a2,a3,_⟩:=alive q hl h3
     by_cases h3':q'=nid
     · rw[h3',setC_one] at hb'
       exact (far q b a1 a2 a3 hb hb').elim
     · rw[setC_other _ _ _ _ h3'] at hb'
       exact c.rel.dis q q' b a3 (alive q' hl' h3').2.2.1 hb hb')
  (fun hxt q hl=>by
   by_cases h3:q=nid
   · subst h3
     right
     rw[setC_one,hHn]
     exact qm.2 S _ _ hxt.hS
   · left
     obtain⟨a1,a2,a3,a4⟩:=alive q hl h3
     exact⟨a4,setC_other _ _ _ _ h3,fun b hb hw=>a1 (c.rel.dis q k b a3 hkl hb (.inl hw))⟩)
 intro next Q hn
 rw[e3,hv,e4] at key
 refine key r1 next Q (hn v' w' S (setC β nid cr) ?_ ?_ ?_)
 · rw[←hs];exact z1
 · rw[←hs]
   refine⟨_,rfl,?_⟩
   simp only[leaf,hHn,setC_one]
   exact q1
 · rw[←hs];exact z2
theorem s_clear {c0:Call} {x:Operand} {t:TypeId} (ho:o.op=.call c0) (hcal:c0.callee=.builtin .clear) (hargs:c0.args = #[x]) (hty:c0.argTypes = #[t]) (c:Cx P T M S0 w0 S β H w a ev nid r) (hs:semClear T H t (ev x)=some r):Goes P M S0 w0 S β H w o a r:=by
 have hx:=c.hev x
 unfold semClear at hs
 split at hs
 rotate_left
 · cases hs
 rename_i e k lo n e0 ty0 hd hex
 rw[hex] at hx
 obtain⟨u,e1,hl⟩:=hx
 cases e1
 split at hs
 rotate_left
 · cases hs
 rename_i e1 ik0 xs ik z hk hz
 split at hs
 rotate_left
 · cases hs
 rename_i hg
 obtain⟨rfl,hkn,hsz,hty0⟩:=hg
 simp only[Option.some.injEq] at hs
 simp only[leaf,hk] at hl
 obtain⟨ao,cc,hv,hnc,hlo,hao,_⟩:=hl
 have ht:=run_slice_desc c.hT hd
 have key:∀ {w':World},(Builtin.clear_ #[t] o.type #[a.eval x]).run P w=.ok (.tuple #[]) w'→∀(next:Act→World→Prop) (Q:Exit→Act→World→Prop),next (a.put o.dst (.tuple #[])) w'→o.wp P a w next Q:=by
  intro w' h1 next Q hn
  unfold Oper.wp execOp
  have h0:∀consts,builtin .clear #[t] o.type consts #[a.eval x]=(do pure (Next.value (←Builtin.clear_ #[t] o.type #[a.eval x]))):=fun _=>rfl
  simp only[ho,hcal,hargs,hty,List.map_toArray,List.map_cons,List.map_nil,resolve,invoke,Sem.run_bind,Sem.run_pure,Result.andThen_ok,h0,h1]
  exact hn
 have hvt:∀S' w' β' H',VL S' w' β' H' (.tuple .nl) [.tuple #[]]:=fun _ _ _ _=>⟨[],rfl,rfl⟩
 intro next Q hn
 subst hs
 rw[hv] at key
 rcases Nat.eq_zero_or_pos n with hn0 | hn0
 · subst hn0
   have e2:updH H [(k,.row e1 (.int ik) (List.take lo xs++(List.replicate 0 z++List.drop (lo+0) xs)))]=H:=by
    funext j
    by_cases hj:j=k
    · subst hj;rw[updH_one,hk];simp
    · rw[updH_other _ _ _ _ hj]
   refine key (w':=w) ?_ next Q (hn (.tuple #[]) w S β ?_ (hvt _ _ _ _) ?_)
   · cases ao<;>simp[Builtin.clear_,run_underlying ht]
   · rw[e2];exact c.rel
   · rw[e2];exact Ext.refl _ _ _ _
 · obtain⟨g,hg,rfl⟩:=hao hn0
   have hob:=c.rel.ob k
   rw[hk] at hob
   rcases hob with ⟨eg,_⟩ | ⟨g',cur,eg,eh,hc1,hc2,hc3,hcat⟩
   · rw[hg] at eg;cases eg
   rw[hg] at eg
   cases eg
   obtain⟨i,zv,h1,h2,h3,h4⟩:=zero_of c.hT (known_d hkn)
   have hzl:zv.cells = #[.int ik z]:=by
    have:=h4 S w β H
    rw[hz] at this
    obtain⟨v,r,q1,⟨v',q2,q3⟩,q4⟩:=this
    have q4:r=[]:=q4
    have q3:v'=.int ik z:=q3
    subst q4
    cases q2
    apply Array.toList_inj.1
    rw[q1,q3]
   have hzv:(zeroValue e).run P w=.ok zv w:=by
    simp[zeroValue,typeInfo,h1,h2]
   have hzc:(Builtin.zeroCells zv.cells n).toList=List.replicate n (Value.int ik z):=by
    rw[hzl]
    simp[Builtin.zeroCells]
    apply List.ext_getElem
    · simp
    · intro i h1 h2
      simp[Nat.mod_one]
   have hcur:lo+n≤cur.size:=by rw[hc3];simp only[Ty.size];omega
   have hst:=run_storeCells_at P g lo e1 (List.replicate n (Value.int ik z)) 0 cur w eh (by simpa using hcur) (by intro u hu;rw[List.eq_of_mem_replicate hu];rfl)
   simp only[Nat.add_zero,List.length_replicate] at hst
   have hrun:(Builtin.clear_ #[t] o.type #[.slice (some ⟨g,lo*ty0.size,none⟩) n cc]).run P w=.ok (.tuple #[]) (w.setRow g (cur.toList.take lo++List.replicate n (Value.int ik z)++cur.toList.drop (lo+n)).toArray):=by
    obtain⟨m,rfl⟩:∃m,n=m+1:=⟨n-1,by omega⟩
    rw[hty0,Nat.mul_one]
    simp[Builtin.clear_,run_underlying ht,hzv,hzc,hst]
   have hlen:=Cat.length (DR.length (.int ik)) _ _ hcat
   have hcl:cur.toList.length=cur.size:=Array.length_toList
   obtain⟨hr,hxt⟩:=c.rel.write k g (by rw[hk];rfl) hg (.row e1 (.int ik) (List.take lo xs++(List.replicate n z++List.drop (lo+n) xs))) (by rw[hk];exact .inr ⟨rfl,_,rfl,by simp;omega⟩) (w':=w.setRow g (cur.toList.take lo++List.replicate n (Value.int ik z)++cur.toList.drop (lo+n)).toArray) rfl rfl rfl (size_setRow _ _ _) (fun b hb=>setRow_other w g b _ hb)
    (fun hxt=>.inr ⟨g,_,hg,setRow_heap w g _ _ _ _ eh,by simp;omega,hc2,by simp[hc3,Ty.size];omega,by
     have hl2:(List.take lo xs++(List.replicate n z++List.drop (lo+n) xs)).length=xs.length:=by simp;omega
     rw[hl2]
     have hcat':=Cat.mono (DR.mono hxt.hS (.int ik)) _ _ hcat
     have hcs:∀(ys:List Int) (cs:List Value),Cat (DR S w (.int ik)) ys cs→cs=ys.map (.int ik):=by
      intro ys
      induction ys with
      | nil=>intro cs h;exact h
      | cons y ys ih=>rintro cs ⟨c1,c2,rfl,h1,h2⟩;rw[ih c2 h2,show c1=[.int ik y] from h1];rfl
     have hmk:∀(S':Nat→Prop) (w':World) (ys:List Int),Cat (DR S' w' (.int ik)) ys (ys.map (.int ik)):=by
      intro S' w' ys
      induction ys with
      | nil=>exact rfl
      | cons y ys ih=>exact⟨[.int ik y],_,rfl,rfl,ih⟩
     have e3:=hcs _ _ hcat
     have e4:((cur.toList.take lo++List.replicate n (Value.int ik z)++cur.toList.drop (lo+n)).toArray.toList.take (xs.length*(Ty.int ik).size))=(List.take lo xs++(List.replicate n z++List.drop (lo+n) xs)).map (Value.int ik):=by
      simp only[Ty.size,Nat.mul_one] at e3 ⊢
      have e5:(cur.toList.take lo)=(xs.map (Value.int ik)).take lo:=by rw[←e3,List.take_take,Nat.min_eq_left (by omega)]
      have e6:(cur.toList.drop (lo+n)).take (xs.length-(lo+n))=(xs.map (Value.int ik)).drop (lo+n):=by rw[←e3,List.drop_take]
      have e7:cur.toList.length≥lo+n:=by rw[hcl];exact hcur
      have e8:(cur.toList.take lo++List.replicate n (Value.int ik z)).length=lo+n:=by
       rw[List.length_append,List.length_take,List.length_replicate];omega
      rw[List.take_append,List.take_of_length_le (by rw[e8];omega),e8,e5,e6]
      simp
     rw[e4]
     exact hmk _ _ _⟩)
   refine key hrun next Q (hn (.tuple #[]) _ _ _ hr (hvt _ _ _ _) hxt)
theorem s_builtin {c0:Call} {b:Builtin} (ho:o.op=.call c0) (hcal:c0.callee=.builtin b) (c:Cx P T M S0 w0 S β H w a ev nid r) (hs:semOp T env ev H nid o=some r):Goes P M S0 w0 S β H w o a r:=by
 simp only[semOp,ho,hcal] at hs
 have key:∀ {s:Sem Value} {u:Value} {v:AV},(∀consts,builtin b c0.argTypes o.type consts (c0.args.map a.eval)=(do pure (Next.value (←s))))→s.run P w=.ok u w→VL S w β H v [u]→r=⟨[],v,[]⟩→Goes P M S0 w0 S β H w o a r:=by
  intro s u v h1 h2 h3 h4
  subst h4
  intro next Q hn
  unfold Oper.wp execOp
  simp only[ho,hcal,resolve,invoke,Sem.run_bind,Sem.run_pure,Result.andThen_ok,h1,h2]
  exact hn u w S β (by rw[updH_nil];exact c.rel) (by rw[updH_nil];exact h3) (by rw[updH_nil];exact Ext.refl _ _ _ _)
 have two:∀ {x y:AV},c0.args.toList.map ev=[x,y]→∃x' y',c0.args.toList=[x',y']∧ev x'=x∧ev y'=y:=by
  intro x y h
  match hl:c0.args.toList,h with
  | [x',y'],h=>simp at h;exact⟨x',y',rfl,h.1,h.2⟩
 unfold semBuiltin at hs
 split at hs
 · rename_i xx hxx
   obtain⟨x',hargs,hx'⟩:∃x',c0.args.toList=[x']∧ev x'=xx:=by
    match hl:c0.args.toList,hxx with
    | [x'],h=>simp at h;exact⟨x',rfl,h⟩
   have ea:c0.args = #[x']:=by apply Array.toList_inj.1;rw[hargs]
   split at hs
   rotate_left
   · cases hs
   rename_i t hty
   have et:c0.argTypes = #[t]:=by apply Array.toList_inj.1;rw[hty]
   split at hs
   · rename_i e hd
     split at hs
     · cases hs
     · rename_i k hy
       split at hs
       · rename_i e' cs hk
         simp only[ok,Option.some.injEq] at hs
         have hv:=VL.typed (T:=T) (ty:=t) (c.hev x')
         rw[hx',hy] at hv
         obtain⟨u,e1,hl⟩:=hv
         simp only[List.cons.injEq,and_true] at e1
         simp only[leaf,hk] at hl
         have ht:=run_slice_desc c.hT hd
         obtain⟨_,_,_,_,ao,cc,q1,_⟩:=ownedP_of c.rel hk
         refine key (s:=Builtin.len_ c0.argTypes o.type (c0.args.map a.eval)) (u:=.int .i64 cs.length) (v:=.int .i64 cs.length) (fun _=>rfl) ?_ ⟨_,rfl,rfl⟩ hs.symm
         rw[ea,et]
         simp[Builtin.len_,run_underlying ht,e1,hl,q1,goInt]
       · cases hs
     · rename_i k hy
       have hv:=VL.typed (T:=T) (ty:=t) (c.hev x')
       rw[hx',hy] at hv
       have ht:=run_slice_desc c.hT hd
       split at hs
       · rename_i e' ty xs hk
         simp only[ok,Option.some.injEq] at hs
         obtain⟨u,e1,hl⟩:=hv
         simp only[List.cons.injEq,and_true] at e1
         simp only[leaf,hk] at hl
         obtain⟨_,_,_,_,_,_,ao,cc,q1,_⟩:=ownedO_of c.rel hk
         refine key (s:=Builtin.len_ c0.argTypes o.type (c0.args.map a.eval)) (u:=.int .i64 xs.length) (v:=.int .i64 xs.length) (fun _=>rfl) ?_ ⟨_,rfl,rfl⟩ hs.symm
         rw[ea,et]
         simp[Builtin.len_,run_underlying ht,e1,hl,q1,goInt]
       · rename_i e' ty xs hk
         simp only[ok,Option.some.injEq] at hs
         obtain⟨ao,n,cc,news,q1,q2,_,_,_⟩:=elems_of c.rel hv (e:=e') (t:=ty) (xs:=xs) (by simp only[elems,hk])
         refine key (s:=Builtin.len_ c0.argTypes o.type (c0.args.map a.eval)) (u:=.int .i64 n) (fun _=>rfl) ?_ ?_ hs.symm
         · rw[ea,et]
           simp[Builtin.len_,run_underlying ht,q1,goInt]
         · exact⟨_,rfl,by rw[q2];exact rfl⟩
       · cases hs
     · rename_i k lo n e' t' hy
       have hv:=VL.typed (T:=T) (ty:=t) (c.hev x')
       rw[hx',hy] at hv
       have ht:=run_slice_desc c.hT hd
       split at hs
       · rename_i e2 cs hk
         simp only[ok,Option.some.injEq] at hs
         obtain⟨u,e1,hl⟩:=hv
         simp only[List.cons.injEq,and_true] at e1
         simp only[leaf,hk] at hl
         obtain⟨ao,cc,q1,_⟩:=hl
         refine key (s:=Builtin.len_ c0.argTypes o.type (c0.args.map a.eval)) (u:=.int .i64 n) (v:=.int .i64 n) (fun _=>rfl) ?_ ⟨_,rfl,rfl⟩ hs.symm
         rw[ea,et]
         simp[Builtin.len_,run_underlying ht,e1,q1,goInt]
       · split at hs
         · rename_i l hel
           simp only[ok,Option.some.injEq] at hs
           obtain⟨ao,n',cc,news,q1,q2,_,_,_⟩:=elems_of c.rel hv hel
           refine key (s:=Builtin.len_ c0.argTypes o.type (c0.args.map a.eval)) (u:=.int .i64 n') (fun _=>rfl) ?_ ?_ hs.symm
           · rw[ea,et]
             simp[Builtin.len_,run_underlying ht,q1,goInt]
           · exact⟨_,rfl,by rw[q2];exact rfl⟩
         · cases hs
     · rename_i y hy _ _ _
       split at hs
       · rename_i l hel
         simp only[ok,Option.some.injEq] at hs
         have hv:=VL.typed (T:=T) (ty:=t) (c.hev x')
         rw[hx'] at hv
         obtain⟨ao,n,cc,news,q1,q2,_,_,_⟩:=elems_of c.rel hv hel
         have ht:=run_slice_desc c.hT hd
         refine key (s:=Builtin.len_ c0.argTypes o.type (c0.args.map a.eval)) (u:=.int .i64 n) (fun _=>rfl) ?_ ?_ hs.symm
         · rw[ea,et]
           simp[Builtin.len_,run_underlying ht,q1,goInt]
         · exact⟨_,rfl,by rw[q2];exact rfl⟩
       · cases hs
   · rename_i n e hd
     simp only[ok,Option.some.injEq] at hs
     have h:=(c.hT t (by rw[hd];simp)).desc
     unfold DescOk at h
     rw[hd] at h
     refine key (s:=Builtin.len_ c0.argTypes o.type (c0.args.map a.eval)) (u:=.int .i64 n) (v:=.int .i64 n) (fun _=>rfl) ?_ ⟨_,rfl,rfl⟩ hs.symm
     rw[ea,et]
     simp[Builtin.len_,run_underlying h.1,goInt]
   · rename_i kt0 et0 hd
     split at hs
     · rename_i k
       split at hs
       · rename_i ag ty es hk
         simp only[ok,Option.some.injEq] at hs
         have hv:=c.hev x'
         rw[hx'] at hv
         obtain⟨u,e1,hl⟩:=hv
         simp only[List.cons.injEq,and_true] at e1
         simp only[leaf,hk] at hl
         obtain⟨g,hg,hu⟩:=hl
         have hob:=c.rel.ob k
         rw[hk] at hob
         obtain⟨g',l,q1,q2,q3,_⟩:=hob
         rw[hg] at q1
         cases q1
         have h:=(c.hT t (by rw[hd];simp)).desc
         unfold DescOk at h
         rw[hd] at h
         refine key (s:=Builtin.len_ c0.argTypes o.type (c0.args.map a.eval)) (u:=.int .i64 es.length) (v:=.int .i64 es.length) (fun _=>rfl) ?_ ⟨_,rfl,rfl⟩ hs.symm
         rw[ea,et]
         simp[Builtin.len_,run_underlying h.1,goInt,e1,hu,MapKept.run_getObj_map q2,q3]
       · cases hs
     · cases hs
   · rename_i hd
     split at hs
     · rename_i s0 ht0
       simp only[ok,Option.some.injEq] at hs
       have hv:=c.hev x'
       rw[hx'] at hv
       obtain⟨u,e1,hl⟩:=hv
       simp only[List.cons.injEq,and_true] at e1
       have hl:u=.string s0:=hl
       have h:=(c.hT t (by rw[hd];simp)).desc
       unfold DescOk at h
       rw[hd] at h
       obtain⟨d,k1,_,_,_,k2,_⟩:=h
       have k2:=k2 ht0
       subst k2
       refine key (s:=Builtin.len_ c0.argTypes o.type (c0.args.map a.eval)) (u:=.int .i64 s0.size) (v:=.int .i64 s0.size) (fun _=>rfl) ?_ ⟨_,rfl,rfl⟩ hs.symm
       rw[ea,et]
       simp[Builtin.len_,run_underlying k1,goInt,e1,hl]
     · cases hs
   · cases hs
 · rename_i s x hxx
   obtain⟨s',x',hargs,e1,e2⟩:=two hxx
   split at hs
   · rename_i hty
     subst e1
     subst e2
     split at hs
     · rename_i hk hj
       exact s_appendP ho hcal hargs hty c hk hj hs
     · rename_i hk hj
       split at hs
       · exact s_appendO ho hcal hargs hty c hk hj hs
       · exact s_append ho hcal hargs hty c hs
     · exact s_append ho hcal hargs hty c hs
   · split at hs
     · rename_i hty
       subst e1
       subst e2
       exact s_appendZ ho hcal hargs hty c hs
     · cases hs
 · rename_i x y hxx
   obtain⟨x',y',hargs,e1,e2⟩:=two hxx
   have ea:c0.args = #[x',y']:=by apply Array.toList_inj.1;rw[hargs]
   split at hs
   · rename_i vx vy hx hy
     obtain⟨z,h1,h2⟩:=Option.bind_eq_some_iff.1 hs
     simp only[ok,Option.some.injEq] at h2
     obtain⟨u,e,hu⟩:=ofSem_of (S:=S) (w:=w) (β:=β) (H:=H) h1
     refine key (s:=Builtin.max_ c0.argTypes o.type #[vx,vy]) ?_ ?_ hu h2.symm
     · intro _
       rw[ea]
       have hvx:=toV_of (c.hev x') (by rw[e1];exact hx)
       have hvy:=toV_of (c.hev y') (by rw[e2];exact hy)
       simp only[List.map_toArray,List.map_cons,List.map_nil,hvx,hvy]
       rfl
     · rw[Array.toArray_toList] at e
       rw[e];rfl
   · cases hs
 · rename_i x y hxx
   obtain⟨x',y',hargs,e1,e2⟩:=two hxx
   have ea:c0.args = #[x',y']:=by apply Array.toList_inj.1;rw[hargs]
   split at hs
   · rename_i vx vy hx hy
     obtain⟨z,h1,h2⟩:=Option.bind_eq_some_iff.1 hs
     simp only[ok,Option.some.injEq] at h2
     obtain⟨u,e,hu⟩:=ofSem_of (S:=S) (w:=w) (β:=β) (H:=H) h1
     refine key (s:=Builtin.min_ c0.argTypes o.type #[vx,vy]) ?_ ?_ hu h2.symm
     · intro _
       rw[ea]
       have hvx:=toV_of (c.hev x') (by rw[e1];exact hx)
       have hvy:=toV_of (c.hev y') (by rw[e2];exact hy)
       simp only[List.map_toArray,List.map_cons,List.map_nil,hvx,hvy]
       rfl
     · rw[Array.toArray_toList] at e
       rw[e];rfl
   · cases hs
 · rename_i xx hxx
   obtain⟨x',hargs,hx'⟩:∃x',c0.args.toList=[x']∧ev x'=xx:=by
    match hl:c0.args.toList,hxx with
    | [x'],h=>simp at h;exact⟨x',rfl,h⟩
   have ea:c0.args = #[x']:=by apply Array.toList_inj.1;rw[hargs]
   split at hs
   rotate_left
   · cases hs
   rename_i t hty
   have et:c0.argTypes = #[t]:=by apply Array.toList_inj.1;rw[hty]
   rw[←hx'] at hs
   exact s_clear ho hcal ea et c hs
 · cases hs
theorem s_bytes {s d e:TypeId} {x:Operand} (ho:o.op=.convert s d x) (c:Cx P T M S0 w0 S β H w a ev nid r) (h1:(T.at_ s).d=.slice e) (h2:(T.at_ d).d=.scalar) (h3:(T.at_ d).t=some .str) (hs:semBytes T H e (typed T s (ev x))=some r):Goes P M S0 w0 S β H w o a r:=by
 unfold semBytes at hs
 split at hs
 rotate_left
 · cases hs
 rename_i e' xs hel
 split at hs
 rotate_left
 · cases hs
 rename_i q1 q2
 simp only[ok,Option.some.injEq] at hs
 subst hs
 have g1:=(c.hT s (by rw[h1];simp)).desc
 have g2:=(c.hT d (by rw[h2];simp)).desc
 have g3:=(c.hT e (by rw[q1];simp)).desc
 unfold DescOk at g1 g2 g3
 rw[h1] at g1
 rw[h2] at g2
 rw[q1] at g3
 obtain⟨d1,k1,_,_,_,k2,_⟩:=g2
 obtain⟨d2,k3,_,k4,_⟩:=g3
 have k2:=k2 h3
 have k4:=k4 _ q2
 subst k2 k4
 obtain⟨ao,n,cc,news,x1,x2,x3,x4,x5⟩:=elems_of c.rel (VL.typed (c.hev x)) hel
 have hnews:∀(xs:List Int) (cs:List Value),Cat (DR S w (.int .u8)) xs cs→cs=xs.map (Value.int .u8):=by
  intro xs
  induction xs with
  | nil=>intro cs h;exact h
  | cons y ys ih=>rintro cs ⟨c1,c2,e1,e2,e3⟩;have e2:c1=[.int .u8 y]:=e2;rw[e1,e2,ih _ e3];rfl
 have x4:=hnews xs news x4
 refine goes_same (u:=.string (toBytes xs)) c rfl (s:=convert s d (a.eval x)) (by simp only[execOp,ho]) ?_ ⟨_,rfl,rfl⟩
 rw[x1,run_convert_bytes_string w s d e ao n cc g1 k3 k1,toBytes_eq]
 cases ao with
 | none=>
  have:xs=[]:=by
   cases hx:xs with
   | nil=>rfl
   | cons y ys=>rw[hx] at x4;obtain⟨ad,e1,_⟩:=x5 0 (.int .u8 y) (by rw[x4];rfl);cases e1
  rw[this]
  rfl
 | some ad=>
  refine run_bytesToString w ad n cc xs ?_
  have:=run_loadCells_list (P:=P) w ad news (fun j v hj=>by obtain⟨ad',e1,e2⟩:=x5 j v hj;cases e1;exact e2)
  rw[x4] at this
  rw[x2]
  simpa using this
end
end Go.Proofs.YtkpjcmiijlpcaaaDoor.Aw
