/- An abstract program logic over the model: maps with integer keys: the operations are sound. -/
import Derived.Test.YtkpjcmiijlpcaaaDoorAwM
import Derived.Maps.RangeRun
namespace Go.Proofs.YtkpjcmiijlpcaaaDoor.Aw
open Go
section
variable {P:Program} {T:Tab} {env:Env} {M S0:Nat→Prop} {w0:World} {S:Nat→Prop} {β:Nat→Cr} {H:Nat→Ob} {w:World} {o:Oper} {a:Act} {ev:Operand→AV} {nid:Nat} {r:Res}
theorem mIdx_le {α:Type} (key:Int):∀es:List (Int×α),mIdx key es≤es.length
 | []=>Nat.le_refl _
 | p::l=>by
  have:=mIdx_le key l
  simp only[mIdx,List.length_cons]
  cases key==p.1<;>simp<;>omega
theorem mPut_yes {α:Type} {key:Int} {x:α} {es:List (Int×α)} (h:mIdx key es<es.length):mPut key x es=es.set (mIdx key es) (key,x):=by
 unfold mPut;rw[show (mIdx key es).blt es.length=true by simpa using h];rfl
theorem mPut_no {α:Type} {key:Int} {x:α} {es:List (Int×α)} (h:¬mIdx key es<es.length):mPut key x es=es++[(key,x)]:=by
 unfold mPut;rw[show (mIdx key es).blt es.length=false by rw[Bool.eq_false_iff];intro hc;exact h (by simpa using hc)];rfl
theorem mIns_yes {α:Type} {key:Int} {x:α} {es:List (Int×α)} (h:mIdx key es<es.length):mIns key x es=es:=by
 unfold mIns;rw[show (mIdx key es).blt es.length=true by simpa using h];rfl
theorem mIns_no {α:Type} {key:Int} {x:α} {es:List (Int×α)} (h:¬mIdx key es<es.length):mIns key x es=es++[(key,x)]:=by
 unfold mIns;rw[show (mIdx key es).blt es.length=false by rw[Bool.eq_false_iff];intro hc;exact h (by simpa using hc)];rfl
theorem mIdx_key {α:Type} {key:Int}:∀(es:List (Int×α)) (p:Int×α),es[mIdx key es]? = some p→p.1=key:=by
 intro es
 induction es with
 | nil=>intro p h;simp at h
 | cons q es ih=>
  intro p h
  simp only[mIdx] at h
  cases hq:(key==q.1)
  · rw[hq] at h;simp only[cond_false,List.getElem?_cons_succ] at h;exact ih p h
  · rw[hq] at h;simp only[cond_true,List.getElem?_cons_zero,Option.some.injEq] at h;subst h;exact (by simpa using hq:key=q.1).symm
theorem find_of {α:Type} (key:Int):∀(es:List (Int×α)) (l:List MapEntry) (i:Nat),l.length=es.length→(∀(j:Nat) (p:Int×α),es[j]? = some p→∃v b,l[j]? = some (MapEntry.mk (.int .i64 p.1) v b)) →
 Instr.findNow (.int .i64) (.int .i64 key) l i=some ((l[mIdx key es]?).map fun e=>(i+mIdx key es,e.val))
 | [],l,i,hl,_=>by
  cases l with
  | nil=>rfl
  | cons e l=>simp at hl
 | p::es,l,i,hl,h=>by
  cases l with
  | nil=>simp at hl
  | cons e l=>
   obtain⟨v,b,hv⟩:=h 0 p rfl
   simp only[List.getElem?_cons_zero,Option.some.injEq] at hv
   subst hv
   unfold Instr.findNow
   simp only[Instr.sameNow,if_true]
   cases hk:(key==p.1)
   · simp only[mIdx,hk,cond_false,List.getElem?_cons_succ]
     rw[find_of key es l (i+1) (by simpa using hl) (fun j q hq=>by have:=h (j+1) q (by simpa using hq);simpa using this)]
     congr 1
     funext
     rw[show i+1+mIdx key es=i+(mIdx key es+1) by omega]
   · simp[mIdx,hk]
theorem EntR.keys {ag:Bool} {t:Ty} {es:List (Int×t.den)} {l:Array MapEntry} (h:EntR S w ag t es l):∀(j:Nat) (p:Int×t.den),es[j]? = some p→∃v b,l.toList[j]? = some (MapEntry.mk (.int .i64 p.1) v b):=by
 intro j p hp
 obtain⟨cs,_,h2⟩:=h.2 j p hp
 exact⟨_,_,by rw[Array.getElem?_toList];exact h2⟩
theorem EntR.ext {S':Nat→Prop} {w':World} (hx:∀b,S b→S' b∧w'.heap[b]? = w.heap[b]?) {ag:Bool} {t:Ty} {es:List (Int×t.den)} {l:Array MapEntry} (h:EntR S w ag t es l):EntR S' w' ag t es l:=
 ⟨h.1,fun i p hp=>by obtain⟨cs,q1,q2⟩:=h.2 i p hp;exact⟨cs,DR.mono hx _ _ _ q1,q2⟩⟩
theorem EntR.find {ag:Bool} {t:Ty} {es:List (Int×t.den)} {l:Array MapEntry} (h:EntR S w ag t es l) (key:Int) :
 Instr.findNow (.int .i64) (.int .i64 key) l.toList 0=some ((l[mIdx key es]?).map fun e=>(mIdx key es,e.val)):=by
 rw[find_of key es l.toList 0 (by simpa using h.1) h.keys,Array.getElem?_toList]
 simp
theorem isKey_int (n:Int):MapKept.IsKey (.int .i64) (.int .i64 n):=rfl
theorem aggV_val {z:Value}:∀ {b:Bool},aggV z=b→valV b z.cells.toList=z:=by
 intro b h
 subst h
 cases z<;>rfl
theorem aggD_of (hT:TabOk P T) {e:TypeId} {d:TypeDesc} (hd:(T.at_ e).d≠.unk) (h:P.underlying e=some d):(T.at_ e).d.isAgg=aggD d:=by
 have hdd:=(hT e hd).desc
 unfold DescOk at hdd
 cases hc:(T.at_ e).d<;>rw[hc] at hdd<;>simp only at hdd
 case unk=>exact absurd hc hd
 case scalar=>
  obtain⟨d',h1,h2,_⟩:=hdd
  rw[h] at h1
  cases h1
  cases d<;>first | rfl | simp[notAgg] at h2
 case slice e'=>rw[h] at hdd;cases hdd;rfl
 case struct fs=>obtain⟨f,h1,_⟩:=hdd;rw[h] at h1;cases h1;rfl
 case array n e'=>obtain⟨h1,_⟩:=hdd;rw[h] at h1;cases h1;rfl
 case map k e'=>obtain⟨h1,_⟩:=hdd;rw[h] at h1;cases h1;rfl
theorem mapTy_of (hT:TabOk P T) {t:TypeId} {ag:Bool} {ty:Ty} {z:List AV} (h:mapTy T t=some (ag,ty,z)) :
 ∃k e zv,P.underlying t=some (.map k e)∧P.underlying k=some (.int .i64)∧(∀w,(zeroValue e).run P w=.ok zv w)∧(∀S w β H,VLs S w β H z zv.cells.toList)∧valV ag zv.cells.toList=zv:=by
 unfold mapTy at h
 split at h
 · rename_i k e hd
   split at h
   · rename_i hk
     split at h
     · rename_i ty' ht
       split at h
       · rename_i hsz
         simp only[Option.some.injEq,Prod.mk.injEq] at h
         obtain⟨rfl,rfl,rfl⟩:=h
         have hdd:=(hT t (by rw[hd];simp)).desc
         unfold DescOk at hdd
         rw[hd] at hdd
         obtain⟨q1,q2,q3⟩:=hdd
         obtain⟨f,zv,h1,h2,h3,h4⟩:=zero_of hT (known_d hk)
         refine⟨k,e,zv,q1,q2,fun w => ?_,h4,?_⟩
         · simp[zeroValue,typeInfo,Sem.run_bind,h1,h2,Result.andThen]
         · apply aggV_val
           unfold zeroShape at q3
           rw[h1] at q3
           cases hu:P.underlying e with
           | none=>rw[hu] at q3;cases q3
           | some d=>
            rw[hu] at q3
            simp only[h2] at q3
            rw[aggD_of hT (known_d hk) hu]
            simpa using q3
       · cases h
     · cases h
   · cases h
 · cases h
theorem valA_of {ag:Bool} {ty:Ty} {x:ty.den} {cs:List Value} (h:DR S w ty x cs):VL S w β H (valA ag (enc ty x)) [valV ag cs]:=by
 have h1:VLs S w β H (enc ty x) cs:=enc_of ty x cs h
 unfold valA valV
 cases ag with
 | true=>exact⟨cs,rfl,VLs.of_list _ _ h1⟩
 | false=>
  simp only[Bool.false_eq_true,if_false]
  cases hl:enc ty x with
  | nil=>exact⟨_,rfl,trivial⟩
  | cons u l=>
   rw[hl] at h1
   obtain⟨v,r,e,h2,_⟩:=h1
   subst e
   exact h2
theorem valV_of {y:AV} {u:Value} {l:List AV} {ag:Bool} (hv:VL S w β H y [u]) (hc:y.cells? = some l) (ha:y.agg? = ag):valV ag u.cells.toList=u:=by
 have h1:=(VL.cells_of hc hv).2
 subst ha
 apply aggV_val
 cases y with
 | agg c=>obtain⟨cs,e,_⟩:=hv;cases e;rfl
 | undef=>simp[AV.cells?,AV.one] at hc
 | tuple c=>simp[AV.cells?,AV.one] at hc
 | nl=>simp[AV.cells?,AV.one] at hc
 | cons a b=>simp[AV.cells?,AV.one] at hc
 | _=>
  have h3:=VL.one_of (a:=_) rfl hv
  cases u<;>first | rfl | simp[Value.oneCell'] at h3
theorem map_at (c:Rel M S0 w0 S β H w) {x:AV} {u:Value} {k:Nat} {ag:Bool} {ty:Ty} {es:List (Int×ty.den)} (hv:VL S w β H x [u]) (hx:x=.mp k) (hk:H k=.map ag ty es) :
 ∃g l,(β k).g=some g∧u=.map (some g)∧w.heap[g]? = some (.map l es.length)∧EntR S w ag ty es l:=by
 subst hx
 obtain⟨u',e1,hl⟩:=hv
 simp only[List.cons.injEq,and_true] at e1
 simp only[leaf,hk] at hl
 obtain⟨g,hg,hu⟩:=hl
 have hob:=c.ob k
 rw[hk] at hob
 obtain⟨g',l,q1,q2,q3⟩:=hob
 rw[hg] at q1
 cases q1
 exact⟨g,l,hg,e1.trans hu,q2,q3⟩
theorem s_makeMap {t:TypeId} {x:Option Operand} (ho:o.op=.makeMap t x) (c:Cx P T M S0 w0 S β H w a ev nid r) (hs:semOp T env ev H nid o=some r):Goes P M S0 w0 S β H w o a r:=by
 simp only[semOp,ho] at hs
 have key:∀(ag:Bool) (ty:Ty) (w':World) (s:Sem Value),r=⟨[],.mp nid,[(nid,.map ag ty [])]⟩→execOp a.eval o=(do pure (Next.value (←s)))→s.run P w=.ok (.map (some w.heap.size)) (w.alloc (.map #[] 0))→Goes P M S0 w0 S β H w o a r:=by
  intro ag ty w' s hr he h1
  subst hr
  have hn:=c.fresh (by simp)
  obtain⟨q1,q2⟩:=Rel.born c.rel nid hn ⟨some w.heap.size,0,[]⟩ (.map ag ty []) (w':=w.alloc (.map #[] 0)) ⟨rfl,rfl,rfl,by rw[size_alloc];omega,fun b hb _=>heap_alloc_lt w _ b hb⟩ (fun g hg=>by rw[has_one] at hg;subst hg;rw[size_alloc];omega)
   (fun β' H' hx=>⟨w.heap.size,#[],rfl,heap_alloc_at w _,rfl,fun i p hp=>by simp at hp⟩)
  intro next Q hnx
  refine wp_val he h1 (hnx _ _ _ _ q1 ?_ q2)
  refine⟨_,rfl,?_⟩
  simp only[leaf,updH_one,setC_one]
  exact⟨_,rfl,rfl⟩
 split at hs
 · rename_i ag ty z hm hx
   cases x with
   | none=>cases hs;exact key ag ty w (Instr.makeMap t none) rfl (by unfold execOp;rw[ho];rfl) rfl
   | some y=>simp at hx
 · rename_i ag ty z k n hm hx
   cases x with
   | none=>simp at hx
   | some y=>
    simp only[Option.map_some,Option.some.injEq] at hx
    cases hs
    obtain⟨kt,et,zv,h1,_⟩:=mapTy_of c.hT hm
    have hv:=c.hev y
    rw[hx] at hv
    have hv':=VL.int hv
    refine key ag ty w (Instr.makeMap t (some (a.eval y))) rfl (by unfold execOp;rw[ho];rfl) ?_
    simp[Instr.makeMap,run_underlying h1,hv',asInt,Sem.run_bind,Result.andThen]
    rfl
 · cases hs
theorem EntR.val {ag:Bool} {t:Ty} {es:List (Int×t.den)} {l:Array MapEntry} (h:EntR S w ag t es l) (key:Int) {zx:t.den} {zv:Value} {zc:List Value} (hz:DR S w t zx zc) (hzv:valV ag zc=zv) :
 VL S w β H (valA ag (enc t (mGet key zx es))) [((l[mIdx key es]?).map (·.val)).getD zv]∧∃cs,DR S w t (mGet key zx es) cs∧((l[mIdx key es]?).map (·.val)).getD zv=valV ag cs:=by
 have hx:∃cs,DR S w t (mGet key zx es) cs∧((l[mIdx key es]?).map (·.val)).getD zv=valV ag cs:=by
  unfold mGet
  cases he:es[mIdx key es]? with
  | none=>
   have:l[mIdx key es]? = none:=by
    rw[Array.getElem?_eq_none_iff,h.1]
    exact List.getElem?_eq_none_iff.1 he
   rw[this]
   exact⟨zc,hz,hzv.symm⟩
  | some p=>
   obtain⟨cs,q1,q2⟩:=h.2 _ p he
   rw[q2]
   exact⟨cs,q1,rfl⟩
 refine⟨?_,hx⟩
 obtain⟨cs,h1,h2⟩:=hx
 rw[h2]
 exact valA_of h1
theorem s_lookup {t:TypeId} {x i:Operand} (ho:o.op=.lookup t x i false) (c:Cx P T M S0 w0 S β H w a ev nid r) (hs:semOp T env ev H nid o=some r):Goes P M S0 w0 S β H w o a r:=by
 simp only[semOp,ho] at hs
 split at hs
 rotate_left
 · cases hs
 rename_i k hx
 unfold semLookup at hs
 split at hs
 rotate_left
 · cases hs
 rename_i ag ty z key hm hi
 split at hs
 rotate_left
 · cases hs
 rename_i ag' ty' es zx hk hz
 split at hs
 rotate_left
 · cases hs
 rename_i hh
 obtain⟨rfl,rfl⟩:=hh
 simp only[ok,Option.some.injEq] at hs
 subst hs
 obtain⟨kt,et,zv,h1,h2,h3,h4,h5⟩:=mapTy_of c.hT hm
 obtain⟨g,l,hg,hu,q2,q3⟩:=map_at c.rel (c.hev x) hx hk
 have hv:=c.hev i
 rw[hi] at hv
 have hv':=VL.int hv
 refine goes_same c rfl (s:=Instr.lookup t (a.eval x) (a.eval i) false) (u:=((l[mIdx key es]?).map (·.val)).getD zv) (by unfold execOp;rw[ho]) ?_ (EntR.val q3 key (dec1_of (h4 S w β H) hz) h5).1
 rw[hu,hv']
 simp only[Instr.lookup,Sem.run_bind,run_underlying h1,Result.andThen_ok,MapKept.run_getObj_map q2,Sem.run_pure,MapKept.run_checkKey h2 (isKey_int key) _ 9999,MapKept.run_findKey h2 (q3.find key)]
 cases hl:l[mIdx key es]? with
 | none=>simp[h3,Result.andThen]
 | some e=>simp[Result.andThen]
theorem EntR.push {ag:Bool} {t:Ty} {es:List (Int×t.den)} {l:Array MapEntry} (h:EntR S w ag t es l) {S':Nat→Prop} {w':World} (hx':∀b,S b→S' b∧w'.heap[b]? = w.heap[b]?) (key:Int) {x:t.den} {cs:List Value} {v:Value} (hd:DR S' w' t x cs) (hv:valV ag cs=v) :
 EntR S' w' ag t (es++[(key,x)]) (l.push {key:=.int .i64 key,val:=v,born:=es.length}):=by
 have hsz:=h.1
 refine⟨by simp[hsz],fun j q hq => ?_⟩
 by_cases hj:j<es.length
 · rw[List.getElem?_append_left hj] at hq
   obtain⟨cs',r1,r2⟩:=h.2 j q hq
   refine⟨cs',DR.mono hx' _ _ _ r1,?_⟩
   rw[Array.getElem?_push,if_neg (by omega)]
   exact r2
 · rw[List.getElem?_append_right (by omega)] at hq
   obtain⟨rfl⟩:j=es.length:=by
    have:=(List.getElem?_eq_some_iff.1 hq).1
    simp at this
    omega
   simp only[Nat.sub_self,List.getElem?_cons_zero,Option.some.injEq] at hq
   subst hq
   refine⟨_,hd,?_⟩
   rw[hv,Array.getElem?_push,if_pos hsz.symm]
theorem EntR.set {ag:Bool} {t:Ty} {es:List (Int×t.den)} {l:Array MapEntry} (h:EntR S w ag t es l) {S':Nat→Prop} {w':World} (hx':∀b,S b→S' b∧w'.heap[b]? = w.heap[b]?) {i:Nat} {p:Int×t.den} (hp:es[i]? = some p) {x:t.den} {cs:List Value} {v:Value} (hd:DR S' w' t x cs) (hv:valV ag cs=v) (f:MapEntry→MapEntry) (hf:∀u,f ⟨.int .i64 p.1,u,i⟩=⟨.int .i64 p.1,v,i⟩) :
 EntR S' w' ag t (es.set i (p.1,x)) (l.modify i f):=by
 have hlt:=(List.getElem?_eq_some_iff.1 hp).1
 obtain⟨cs0,p1,p2⟩:=h.2 i p hp
 refine⟨by simp[h.1],fun j q hq => ?_⟩
 by_cases hj:j=i
 · subst hj
   rw[List.getElem?_set_self hlt] at hq
   cases hq
   refine⟨_,hd,?_⟩
   rw[hv,Array.getElem?_modify,if_pos rfl,p2,Option.map_some,hf]
 · rw[List.getElem?_set_ne (Ne.symm hj)] at hq
   obtain⟨cs',r1,r2⟩:=h.2 j q hq
   refine⟨cs',DR.mono hx' _ _ _ r1,?_⟩
   rw[Array.getElem?_modify,if_neg (Ne.symm hj)]
   exact r2
theorem keyStays {k1:Int}:(Instr.keyThatStays (.int .i64 k1) (.int .i64 k1)).run P w=.ok (.int .i64 k1) w:=by
 simp only[Instr.keyThatStays,Instr.sameBits,beq_self_eq_true,Bool.and_self,if_true,Sem.run_pure]
theorem s_mapUpdate {t:TypeId} {x i y:Operand} (ho:o.op=.mapUpdate t x i y) (c:Cx P T M S0 w0 S β H w a ev nid r) (hs:semOp T env ev H nid o=some r):Goes P M S0 w0 S β H w o a r:=by
 simp only[semOp,ho] at hs
 split at hs
 rotate_left
 · cases hs
 rename_i k hx
 unfold semMapUpdate at hs
 split at hs
 rotate_left
 · cases hs
 rename_i ag ty z key lc hm hi hc
 split at hs
 rotate_left
 · cases hs
 rename_i ag' ty' es yx hk hy
 split at hs
 rotate_left
 · cases hs
 rename_i hh
 obtain⟨rfl,rfl,hag⟩:=hh
 simp only[Option.some.injEq] at hs
 subst hs
 obtain⟨kt,et,zv,h1,h2,h3,h4,h5⟩:=mapTy_of c.hT hm
 obtain⟨g,l,hg,hu,q2,q3⟩:=map_at c.rel (c.hev x) hx hk
 have hv:=c.hev i
 rw[hi] at hv
 have hv':=VL.int hv
 have hyv:=c.hev y
 have hyd:=dec1_of (VL.cells_of hc hyv).1 hy
 have hyw:=valV_of hyv hc hag
 have hl:(H k).live=true:=by rw[hk];rfl
 have hsz:l.size=es.length:=q3.1
 intro next Q hn
 have hrun:∃l' n',(Instr.mapUpdate t (a.eval x) (a.eval i) (a.eval y)).run P w=.ok () {w with heap:=w.heap.setIfInBounds g (.map l' n')}∧n'=(mPut key yx es).length∧∀S' w',(∀b,S b→S' b∧w'.heap[b]? = w.heap[b]?)→EntR S' w' ag' ty' (mPut key yx es) l':=by
  by_cases hlt:mIdx key es<es.length
  · obtain⟨p,hp⟩:∃p,es[mIdx key es]? = some p:=⟨_,List.getElem?_eq_getElem hlt⟩
    obtain⟨cs,p1,p2⟩:=q3.2 _ p hp
    have hkey:p.1=key:=mIdx_key es p hp
    refine⟨l.modify (mIdx key es) fun e=>{e with key:=.int .i64 key,val:=a.eval y},es.length,?_,by rw[mPut_yes hlt,List.length_set],fun S' w' hx' => ?_⟩
    · rw[hu,hv']
      simp only[Instr.mapUpdate,Sem.run_bind,run_underlying h1,Result.andThen_ok,MapKept.run_getObj_map q2,MapKept.run_checkKey h2 (isKey_int key) _ 9999,MapKept.run_findKey h2 (q3.find key),p2,Option.map_some,Option.getD_some,hkey,keyStays,MapKept.run_setObj_map _ q2]
    · rw[mPut_yes hlt,show (key,yx)=(p.1,yx) by rw[hkey]]
      exact q3.set hx' hp (DR.mono hx' _ _ _ hyd) hyw _ fun u=>by rw[hkey]
  · have hnone:l[mIdx key es]? = none:=by rw[Array.getElem?_eq_none_iff,hsz];omega
    refine⟨l.push {key:=.int .i64 key,val:=a.eval y,born:=es.length},es.length+1,?_,by rw[mPut_no hlt,List.length_append];rfl,fun S' w' hx' => ?_⟩
    · rw[hu,hv']
      simp only[Instr.mapUpdate,Sem.run_bind,run_underlying h1,Result.andThen_ok,MapKept.run_getObj_map q2,MapKept.run_checkKey h2 (isKey_int key) _ 9999,MapKept.run_findKey h2 (q3.find key),hnone,Option.map_none,MapKept.run_setObj_map _ q2]
    · rw[mPut_no hlt]
      exact q3.push hx' key (DR.mono hx' _ _ _ hyd) hyw
 obtain⟨l',n',hr1,hr2,hr3⟩:=hrun
 obtain⟨z1,z2⟩:=MapKept.heap_set (o':=.map l' n') q2
 obtain⟨e1,e2⟩:=Rel.write c.rel k g hl hg (.map ag' ty' (mPut key yx es)) (by rw[hk];exact .inr ⟨rfl,_,rfl⟩) (w':={w with heap:=w.heap.setIfInBounds g (.map l' n')}) rfl rfl rfl (by simp) (fun b hb=>z2 b hb)
  (fun hx'=>⟨g,l',hg,by rw[←hr2];exact z1,hr3 _ _ hx'.hS⟩)
 refine wp_unit (s:=Instr.mapUpdate t (a.eval x) (a.eval i) (a.eval y)) (by unfold execOp;rw[ho]) hr1 (hn _ _ _ _ e1 ⟨_,rfl,trivial⟩ e2)
theorem s_mapEntry {t:TypeId} {x i:Operand} (ho:o.op=.mapEntry t x i) (c:Cx P T M S0 w0 S β H w a ev nid r) (hs:semOp T env ev H nid o=some r):Goes P M S0 w0 S β H w o a r:=by
 simp only[semOp,ho] at hs
 split at hs
 rotate_left
 · cases hs
 rename_i k hx
 unfold semMapEntry at hs
 split at hs
 rotate_left
 · cases hs
 rename_i ag ty z key hm hi
 split at hs
 rotate_left
 · cases hs
 rename_i ag' ty' es zx hk hz
 split at hs
 rotate_left
 · cases hs
 rename_i hh
 obtain⟨rfl,rfl⟩:=hh
 simp only[Option.some.injEq] at hs
 subst hs
 obtain⟨kt,et,zv,h1,h2,h3,h4,h5⟩:=mapTy_of c.hT hm
 obtain⟨g,l,hg,hu,q2,q3⟩:=map_at c.rel (c.hev x) hx hk
 have hv:=c.hev i
 rw[hi] at hv
 have hv':=VL.int hv
 have hl:(H k).live=true:=by rw[hk];rfl
 have hsz:l.size=es.length:=q3.1
 have hzd:=dec1_of (h4 S w β H) hz
 intro next Q hn
 have hrun:∃l' n',(Instr.mapEntry t (a.eval x) (a.eval i)).run P w=.ok (.tuple #[((l[mIdx key es]?).map (·.val)).getD zv,.int .i64 (mIdx key es)]) {w with heap:=w.heap.setIfInBounds g (.map l' n')}∧n'=(mIns key zx es).length∧∀S' w',(∀b,S b→S' b∧w'.heap[b]? = w.heap[b]?)→EntR S' w' ag' ty' (mIns key zx es) l':=by
  by_cases hlt:mIdx key es<es.length
  · obtain⟨p,hp⟩:∃p,es[mIdx key es]? = some p:=⟨_,List.getElem?_eq_getElem hlt⟩
    obtain⟨cs,p1,p2⟩:=q3.2 _ p hp
    have hkey:p.1=key:=mIdx_key es p hp
    refine⟨l.modify (mIdx key es) fun e=>{e with key:=.int .i64 key},es.length,?_,by rw[mIns_yes hlt],fun S' w' hx' => ?_⟩
    · rw[hu,hv']
      simp only[Instr.mapEntry,Sem.run_bind,run_underlying h1,Result.andThen_ok,MapKept.run_getObj_map q2,MapKept.run_checkKey h2 (isKey_int key) _ 9999,MapKept.run_findKey h2 (q3.find key),p2,Option.map_some,Option.getD_some,hkey,keyStays,MapKept.run_setObj_map _ q2,Sem.run_pure,goInt]
    · rw[mIns_yes hlt]
      have:=q3.set hx' hp (x:=p.2) (DR.mono hx' _ _ _ p1) rfl (fun e=>{e with key:=.int .i64 key})
      have hs2:es.set (mIdx key es) (p.1,p.2)=es:=by
       rw[List.getElem?_eq_some_iff] at hp
       obtain⟨hp1,hp2⟩:=hp
       have:=List.set_getElem_self (as:=es) hp1
       rw[hp2] at this
       exact this
      rw[hs2] at this
      refine⟨by simp[hsz],fun j q hq => ?_⟩
      by_cases hj:j=mIdx key es
      · subst hj
        rw[hp] at hq
        cases hq
        refine⟨cs,DR.mono hx' _ _ _ p1,?_⟩
        rw[Array.getElem?_modify,if_pos rfl,p2,Option.map_some,hkey]
      · obtain⟨cs',r1,r2⟩:=q3.2 j q hq
        refine⟨cs',DR.mono hx' _ _ _ r1,?_⟩
        rw[Array.getElem?_modify,if_neg (Ne.symm hj)]
        exact r2
  · have hnone:l[mIdx key es]? = none:=by rw[Array.getElem?_eq_none_iff,hsz];omega
    refine⟨l.push {key:=.int .i64 key,val:=zv,born:=es.length},es.length+1,?_,by rw[mIns_no hlt,List.length_append];rfl,fun S' w' hx' => ?_⟩
    · have he:mIdx key es=es.length:=by have:=mIdx_le key es;omega
      have hnone':l[es.length]? = none:=by rw[←he];exact hnone
      rw[hu,hv']
      simp only[Instr.mapEntry,Sem.run_bind,run_underlying h1,Result.andThen_ok,MapKept.run_getObj_map q2,MapKept.run_checkKey h2 (isKey_int key) _ 9999,MapKept.run_findKey h2 (q3.find key),he,hnone',Option.map_none,MapKept.run_setObj_map _ q2,h3,Sem.run_pure,Option.getD_none,goInt]
    · rw[mIns_no hlt]
      exact q3.push hx' key (DR.mono hx' _ _ _ hzd) h5
 obtain⟨l',n',hr1,hr2,hr3⟩:=hrun
 obtain⟨z1,z2⟩:=MapKept.heap_set (o':=.map l' n') q2
 obtain⟨e1,e2⟩:=Rel.write c.rel k g hl hg (.map ag' ty' (mIns key zx es)) (by rw[hk];exact .inr ⟨rfl,_,rfl⟩) (w':={w with heap:=w.heap.setIfInBounds g (.map l' n')}) rfl rfl rfl (by simp) (fun b hb=>z2 b hb)
  (fun hx'=>⟨g,l',hg,by rw[←hr2];exact z1,hr3 _ _ hx'.hS⟩)
 obtain⟨v1,cs1,v2,v3⟩:=EntR.val (β:=β) (H:=H) q3 key hzd h5
 refine wp_val (s:=Instr.mapEntry t (a.eval x) (a.eval i)) (by unfold execOp;rw[ho]) hr1 (hn _ _ _ _ e1 ⟨_,rfl,?_⟩ e2)
 refine⟨_,_,rfl,VL.ext e2 _ _ v1,_,_,rfl,⟨_,rfl,rfl⟩,rfl⟩
theorem EntR.findIdx {ag:Bool} {t:Ty} {es:List (Int×t.den)} {l:Array MapEntry} (h:EntR S w ag t es l) {j:Nat} (hj:j<es.length):l.findIdx? (fun e=>(e.born:Int)==(j:Int))=some j:=by
 have hsz:=h.1
 rw[Array.findIdx?_eq_some_iff_getElem]
 have hb:∀(i:Nat) (hi:i<l.size),l[i].born=i:=by
  intro i hi
  obtain⟨cs,_,h2⟩:=h.2 i es[i] (List.getElem?_eq_getElem (by omega))
  rw[Array.getElem?_eq_getElem hi] at h2
  exact congrArg MapEntry.born (Option.some.inj h2)
 refine⟨by omega,by rw[hb j (by omega)];simp,fun i hi => ?_⟩
 rw[hb i (by omega)]
 simp
 omega
theorem s_entryStore {t:TypeId} {x i y:Operand} (ho:o.op=.entryStore t x i y) (c:Cx P T M S0 w0 S β H w a ev nid r) (hs:semOp T env ev H nid o=some r):Goes P M S0 w0 S β H w o a r:=by
 simp only[semOp,ho] at hs
 split at hs
 rotate_left
 · cases hs
 rename_i k hx
 unfold semEntryStore at hs
 split at hs
 rotate_left
 · cases hs
 rename_i ag ty z kk jj lc hm hi hc
 split at hs
 rotate_left
 · cases hs
 rename_i ag' ty' es yx hk hy
 split at hs
 rotate_left
 · cases hs
 rename_i hh
 obtain⟨rfl,rfl,hag⟩:=hh
 simp only[Option.some.injEq] at hs
 subst hs
 have g1:=c.hgs (0≤jj) (by simp)
 have g2:=c.hgs (jj<(es.length:Int)) (by simp)
 obtain⟨j,rfl⟩:∃j:Nat,jj=j:=⟨jj.toNat,by omega⟩
 have hj:j<es.length:=by omega
 obtain⟨g,l,hg,hu,q2,q3⟩:=map_at c.rel (c.hev x) hx hk
 have hv:=c.hev i
 rw[hi] at hv
 have hv':=VL.int hv
 have hyv:=c.hev y
 have hyd:=dec1_of (VL.cells_of hc hyv).1 hy
 have hyw:=valV_of hyv hc hag
 have hl:(H k).live=true:=by rw[hk];rfl
 have hsz:l.size=es.length:=q3.1
 intro next Q hn
 obtain⟨p,hp⟩:∃p,es[j]? = some p:=⟨_,List.getElem?_eq_getElem hj⟩
 have hr1:(Instr.entryStore t (a.eval x) (a.eval i) (a.eval y)).run P w=.ok () {w with heap:=w.heap.setIfInBounds g (.map (l.modify j fun e=>{e with val:=a.eval y}) es.length)}:=by
  rw[hu,hv']
  simp only[Instr.entryStore,Sem.run_bind,Result.andThen_ok,MapKept.run_getObj_map q2,asInt,asIntOf,Sem.run_pure,q3.findIdx hj,MapKept.run_setObj_map _ q2]
 have hmod:es.modify (j:Int).toNat (fun p=>(p.1,yx))=es.set j (p.1,yx):=by
  rw[Int.toNat_natCast]
  apply List.ext_getElem?
  intro q
  rw[List.getElem?_modify]
  by_cases hq:j=q
  · subst hq;rw[List.getElem?_set_self hj,hp];simp
  · rw[List.getElem?_set_ne hq];simp[hq]
 obtain⟨z1,z2⟩:=MapKept.heap_set (o':=.map (l.modify j fun e=>{e with val:=a.eval y}) es.length) q2
 obtain⟨e1,e2⟩:=Rel.write c.rel k g hl hg (.map ag' ty' (es.modify (j:Int).toNat fun p=>(p.1,yx))) (by rw[hk];exact .inr ⟨rfl,_,rfl⟩) (w':={w with heap:=w.heap.setIfInBounds g (.map (l.modify j fun e=>{e with val:=a.eval y}) es.length)}) rfl rfl rfl (by simp) (fun b hb=>z2 b hb)
  (fun hx'=>⟨g,_,hg,by rw[List.length_modify];exact z1,by rw[hmod];exact q3.set hx'.hS hp (DR.mono hx'.hS _ _ _ hyd) hyw _ fun u=>rfl⟩)
 refine wp_unit (s:=Instr.entryStore t (a.eval x) (a.eval i) (a.eval y)) (by unfold execOp;rw[ho]) hr1 (hn _ _ _ _ e1 ⟨_,rfl,trivial⟩ e2)
theorem s_range {t:TypeId} {x:Operand} (ho:o.op=.range t x) (c:Cx P T M S0 w0 S β H w a ev nid r) (hs:semOp T env ev H nid o=some r):Goes P M S0 w0 S β H w o a r:=by
 simp only[semOp,ho] at hs
 split at hs
 rotate_left
 · cases hs
 rename_i k hx
 unfold semRange at hs
 split at hs
 rotate_left
 · cases hs
 rename_i mt ag ty es hm hk
 simp only[Option.some.injEq] at hs
 subst hs
 obtain⟨ag0,ty0,z0⟩:=mt
 obtain⟨kt,et,zv,h1,_⟩:=mapTy_of c.hT hm
 obtain⟨g,l,hg,hu,q2,q3⟩:=map_at c.rel (c.hev x) hx hk
 have hn:=c.fresh (by simp)
 have hne:k≠nid:=by intro e;rw[e,hn] at hk;cases hk
 obtain⟨e1,e2⟩:=Rel.born c.rel nid hn ⟨some w.heap.size,0,[]⟩ (.mit k es.length [] 0) (w':=w.alloc (.mapIter (some g) es.length #[] es.length)) ⟨rfl,rfl,rfl,by rw[size_alloc];omega,fun b hb _=>heap_alloc_lt w _ b hb⟩ (fun g hg=>by rw[has_one] at hg;subst hg;rw[size_alloc];omega)
  (fun β' H' hx=>⟨w.heap.size,g,es.length,rfl,heap_alloc_at w _,rfl,by
   have h2:=hx.hO k
   rw[hk] at h2
   rcases h2 with h3 | ⟨h3,es',h4⟩
   · rw[h3];trivial
   · rw[h4];exact h3.trans hg⟩)
 intro next Q hnx
 refine wp_val (s:=Instr.range t (a.eval x)) (by unfold execOp;rw[ho]) (by rw[hu];exact run_range_map w t kt et g l es.length h1 q2) (hnx _ _ _ _ e1 ?_ e2)
 refine⟨_,rfl,?_⟩
 simp only[leaf,updH_one,setC_one]
 exact⟨_,rfl,rfl⟩
theorem iter_at (c:Rel M S0 w0 S β H w) {x:AV} {u:Value} {k m n cur:Nat} {seen:List Nat} {ag:Bool} {ty:Ty} {es:List (Int×ty.den)} (hv:VL S w β H x [u]) (hx:x=.itr k) (hk:H k=.mit m n seen cur) (hm:H m=.map ag ty es) :
 ∃g gm l,(β k).g=some g∧u=.pointer (some ⟨g,0,none⟩)∧w.heap[g]? = some (.mapIter (some gm) n seen.toArray n)∧(β m).g=some gm∧w.heap[gm]? = some (.map l es.length)∧EntR S w ag ty es l:=by
 subst hx
 obtain⟨u',e1,hl⟩:=hv
 simp only[List.cons.injEq,and_true] at e1
 simp only[leaf,hk] at hl
 obtain⟨g,hg,hu⟩:=hl
 have hob:=c.ob k
 rw[hk] at hob
 obtain⟨g',gm,st,q1,q2,rfl,q3⟩:=hob
 rw[hg] at q1
 cases q1
 rw[hm] at q3
 simp only at q3
 have hob2:=c.ob m
 rw[hm] at hob2
 obtain⟨g',l,p1,p2,p3⟩:=hob2
 rw[q3] at p1
 cases p1
 exact⟨g,gm,l,hg,e1.trans hu,q2,q3,p2,p3⟩
theorem EntR.born {ag:Bool} {t:Ty} {es:List (Int×t.den)} {l:Array MapEntry} (h:EntR S w ag t es l) {e:MapEntry} (he:e∈l.toList):∃p cs,e.born<es.length∧es[e.born]? = some p∧DR S w t p.2 cs∧e=⟨.int .i64 p.1,valV ag cs,e.born⟩∧l[e.born]? = some e:=by
 obtain⟨j,hj,e1⟩:=List.mem_iff_getElem.1 he
 have hsz:=h.1
 have hlt:j<es.length:=by simpa [hsz] using hj
 obtain⟨cs,h1,h2⟩:=h.2 j es[j] (List.getElem?_eq_getElem hlt)
 have h3:l[j]? = some e:=by rw[←e1,←Array.getElem?_toList];exact List.getElem?_eq_getElem hj
 rw[h3] at h2
 cases h2
 exact⟨es[j],cs,hlt,List.getElem?_eq_getElem hlt,h1,rfl,h3⟩
theorem s_entry {x:Operand} (ho:o.op=.entry x) (c:Cx P T M S0 w0 S β H w a ev nid r) (hs:semOp T env ev H nid o=some r):Goes P M S0 w0 S β H w o a r:=by
 simp only[semOp,ho] at hs
 split at hs
 rotate_left
 · cases hs
 rename_i k hx
 split at hs
 rotate_left
 · cases hs
 rename_i m n seen cur hk
 split at hs
 rotate_left
 · cases hs
 rename_i ag ty es hm
 simp only[Option.some.injEq] at hs
 subst hs
 have g1:=c.hgs (seen.getLast? = some cur) (by simp)
 have g2:=c.hgs (n=es.length) (by simp)
 have g3:=c.hgs (cur<es.length) (by simp)
 subst g2
 obtain⟨g,gm,l,hg,hu,q1,q2,q3,q4⟩:=iter_at c.rel (c.hev x) hx hk hm
 obtain⟨cs,r1,r2⟩:=q4.2 cur es[cur] (List.getElem?_eq_getElem g3)
 have hfind:l.find? (fun e=>e.born==cur)=some ⟨.int .i64 es[cur].1,valV ag cs,cur⟩:=by
  rw[Array.find?_eq_some_iff_getElem]
  have hsz:=q4.1
  refine⟨by simp,cur,by omega,?_,fun j hj => ?_⟩
  · rw[Array.getElem?_eq_getElem (by omega)] at r2
    exact Option.some.inj r2
  · obtain⟨cs',_,r2'⟩:=q4.2 j es[j] (List.getElem?_eq_getElem (by omega))
    rw[Array.getElem?_eq_getElem (by omega)] at r2'
    rw[Option.some.inj r2']
    simp
    omega
 have hback:seen.toArray.back? = some cur:=by rw[←g1];simp
 have hd:es.getD cur (0,ty.zero)=es[cur]:=by rw[List.getD,List.getElem?_eq_getElem g3];rfl
 refine goes_same c rfl (s:=Instr.entry (a.eval x)) (u:=.tuple #[.int .i64 es[cur].1,valV ag cs]) (by unfold execOp;rw[ho]) ?_ ?_
 · rw[hu]
   simp only[Instr.entry,getObj,Sem.run_bind,Sem.run,q1,q3,Result.andThen,hback,bne_self_eq_false,Bool.false_eq_true,if_false,hfind]
   rfl
 · rw[hd]
   exact⟨_,rfl,_,_,rfl,⟨_,rfl,rfl⟩,_,_,rfl,valA_of r1,rfl⟩
theorem next_of (c:Rel M S0 w0 S β H w) {x:AV} {u:Value} {k m n cur:Nat} {seen:List Nat} {ag:Bool} {ty:Ty} {es:List (Int×ty.den)} (hv:VL S w β H x [u]) (hx:x=.itr k) (hk:H k=.mit m n seen cur) (hm:H m=.map ag ty es) (hn:n=es.length) (ot:TypeId) :
 ((∀j,j<es.length→j∈seen)∧(Instr.next u false ot).run P w=.ok (.tuple #[.bool false]) w) ∨
 ∃j,j<es.length∧j∉seen∧∃(w':World) (u1 u2:Value),(Instr.next u false ot).run P w=.ok (.tuple #[.bool true,u1,u2]) w'∧Rel M S0 w0 S β (updH H [(k,.mit m n (seen++[j]) j)]) w'∧Ext S w β H S w' β (updH H [(k,.mit m n (seen++[j]) j)]):=by
 subst hn
 obtain⟨g,gm,l,hg,hu,q1,q2,q3,q4⟩:=iter_at c hv hx hk hm
 subst hu
 have hl:(H k).live=true:=by rw[hk];rfl
 rcases run_next_at (P:=P) w ot g gm es.length es.length seen.toArray l es.length q1 q3 (fun e he=>by obtain⟨_,_,h,_⟩:=q4.born he;exact h) (Nat.le_refl _) with ⟨h1,h2⟩ | ⟨e,he,w1,hw,hrun⟩
 · refine .inl ⟨fun j hj => ?_,h2⟩
   by_cases hs:j∈seen
   · exact hs
   · exfalso
     obtain⟨cs,_,r2⟩:=q4.2 j es[j] (List.getElem?_eq_getElem hj)
     have:l.filter (fun e => !seen.toArray.contains e.born) = #[]:=Array.eq_empty_of_size_eq_zero h1
     rw[Array.filter_eq_empty_iff] at this
     have h3:=this _ (Array.mem_of_getElem? r2)
     simp[hs] at h3
 · refine .inr ⟨e.born,?_⟩
   have he':e∈l.toList∧e.born∉seen:=by
    unfold leftOf at he
    simp at he
    exact⟨by simpa using he.1,he.2⟩
   obtain⟨p,cs,h1,h2,h3,h4,h5⟩:=q4.born he'.1
   refine⟨h1,he'.2,_,e.key,e.val,hrun,?_⟩
   have hz:(w.heap.setIfInBounds g (.mapIter (some gm) es.length (seen.toArray.push e.born) es.length))=(ChangeMaps.setBlock w g (.mapIter (some gm) es.length (seen.toArray.push e.born) es.length)).heap:=rfl
   obtain⟨z1,z2⟩:=MapKept.heap_set (o':=.mapIter (some gm) es.length (seen.toArray.push e.born) es.length) q1
   have hw1:w1.heap=w.heap∧w1.os=w.os∧w1.tape=w.tape∧w1.output=w.output:=by rcases hw with rfl | rfl<;>exact⟨rfl,rfl,rfl,rfl⟩
   have hheap:(ChangeMaps.setBlock w1 g (.mapIter (some gm) es.length (seen.toArray.push e.born) es.length)).heap=w.heap.setIfInBounds g (.mapIter (some gm) es.length (seen.toArray.push e.born) es.length):=by
    show w1.heap.setIfInBounds _ _=_
    rw[hw1.1]
   have hd:drW w≤drW (ChangeMaps.setBlock w1 g (.mapIter (some gm) es.length (seen.toArray.push e.born) es.length)):=dr_of (run_drawn _ _ _ _ _ hrun)
   refine Rel.write c k g hl hg (.mit m es.length (seen++[e.born]) e.born) (by rw[hk];exact .inr ⟨rfl,_,_,_,_,rfl⟩) hw1.2.1 hw1.2.2.1 hw1.2.2.2 (by rw[hheap];simp) (fun b hb=>by rw[hheap];exact z2 b hb) fun hx' => ?_
   have hkm:m≠k:=by intro e;rw[e,hk] at hm;cases hm
   refine⟨g,gm,es.length,hg,by rw[hheap];simpa using z1,rfl,?_⟩
   rw[updH_other _ _ _ _ hkm,hm]
   exact q2
end
end Go.Proofs.YtkpjcmiijlpcaaaDoor.Aw
namespace Go.Proofs.YtkpjcmiijlpcaaaDoor.Aw
open Go
section
variable {T:Tab} {env:Env} {ev:Operand→AV} {H H':Nat→Ob} {nid:Nat}
theorem lend_local:∀a:AV,(∀k∈a.refs,H' k=H k)→a.lend H'=a.lend H
 | .row k,h=>by simp only[AV.lend,h k (by simp[AV.refs])]
 | .view k lo n e t,h=>by simp only[AV.lend,viewOf,h k (by simp[AV.refs])]
 | .emp _ _,_=>rfl
 | .prow _,_=>rfl
 | .pptr _ _,_=>rfl
 | .mp _,_=>rfl
 | .nptr _,_=>rfl
 | .itr _,_=>rfl
 | .agg c,h=>by simp only[AV.lend];rw[lend_local c h]
 | .tuple c,h=>by simp only[AV.lend];rw[lend_local c h]
 | .fn f a c,h=>by
  simp only[AV.lend]
  rw[lend_local a fun k hk=>h k (by simp only[AV.refs,List.mem_append];exact .inl hk),lend_local c fun k hk=>h k (by simp only[AV.refs,List.mem_append];exact .inr hk)]
 | .iface t v,h=>by simp only[AV.lend];rw[lend_local v h]
 | .cons a b,h=>by
  simp only[AV.lend]
  rw[lend_local a fun k hk=>h k (by simp only[AV.refs,List.mem_append];exact .inl hk),lend_local b fun k hk=>h k (by simp only[AV.refs,List.mem_append];exact .inr hk)]
 | .undef,_=>rfl
 | .int _ _,_=>rfl
 | .bool _,_=>rfl
 | .str _,_=>rfl
 | .nilp,_=>rfl
 | .nilf,_=>rfl
 | .nili,_=>rfl
 | .nil0,_=>rfl
 | .nils _ _,_=>rfl
 | .ptr _ _,_=>rfl
 | .rptr _ _ _,_=>rfl
 | .list _ _ _,_=>rfl
 | .tl _ _ _,_=>rfl
 | .lptr _ _ _ _ _,_=>rfl
 | .nl,_=>rfl
theorem lendR_local:∀a:AV,(∀k∈a.refs,H' k=H k)→a.lendR H'=a.lendR H
 | .row k,h=>by simp only[AV.lendR,h k (by simp[AV.refs])]
 | .view k lo n e t,h=>by simp only[AV.lendR,viewOf,h k (by simp[AV.refs])]
 | .agg c,h=>by simp only[AV.lendR];rw[lendR_local c h]
 | .tuple c,h=>by simp only[AV.lendR];rw[lendR_local c h]
 | .fn f a c,h=>by
  simp only[AV.lendR]
  rw[lendR_local a fun k hk=>h k (by simp only[AV.refs,List.mem_append];exact .inl hk),lendR_local c fun k hk=>h k (by simp only[AV.refs,List.mem_append];exact .inr hk)]
 | .iface t v,h=>by simp only[AV.lendR];rw[lendR_local v h]
 | .cons a b,h=>by
  simp only[AV.lendR]
  rw[lendR_local a fun k hk=>h k (by simp only[AV.refs,List.mem_append];exact .inl hk),lendR_local b fun k hk=>h k (by simp only[AV.refs,List.mem_append];exact .inr hk)]
 | .undef,_=>rfl
 | .int _ _,_=>rfl
 | .bool _,_=>rfl
 | .str _,_=>rfl
 | .nilp,_=>rfl
 | .nilf,_=>rfl
 | .nili,_=>rfl
 | .nil0,_=>rfl
 | .nils _ _,_=>rfl
 | .ptr _ _,_=>rfl
 | .rptr _ _ _,_=>rfl
 | .list _ _ _,_=>rfl
 | .tl _ _ _,_=>rfl
 | .lptr _ _ _ _ _,_=>rfl
 | .emp _ _,_=>rfl
 | .prow _,_=>rfl
 | .pptr _ _,_=>rfl
 | .mp _,_=>rfl
 | .nptr _,_=>rfl
 | .itr _,_=>rfl
 | .nl,_=>rfl
theorem lendR_refs:∀a:AV,∀k∈(a.lendR H).refs,k∈a.refs
 | .row k,j,h=>by
  simp only[AV.lendR] at h
  split at h<;>simp[AV.refs] at h
 | .view k lo n e t,j,h=>by
  simp only[AV.lendR] at h
  split at h<;>simp[AV.refs] at h
 | .agg c,j,h=>lendR_refs c j h
 | .tuple c,j,h=>lendR_refs c j h
 | .fn f a c,j,h=>by
  simp only[AV.lendR,AV.refs,List.mem_append] at h ⊢
  exact h.imp (lendR_refs a j) (lendR_refs c j)
 | .iface t v,j,h=>lendR_refs v j h
 | .cons a b,j,h=>by
  simp only[AV.lendR,AV.refs,List.mem_append] at h ⊢
  exact h.imp (lendR_refs a j) (lendR_refs b j)
 | .undef,_,h=>h
 | .int _ _,_,h=>h
 | .bool _,_,h=>h
 | .str _,_,h=>h
 | .nilp,_,h=>h
 | .nilf,_,h=>h
 | .nili,_,h=>h
 | .nil0,_,h=>h
 | .nils _ _,_,h=>h
 | .ptr _ _,_,h=>h
 | .rptr _ _ _,_,h=>h
 | .list _ _ _,_,h=>h
 | .tl _ _ _,_,h=>h
 | .lptr _ _ _ _ _,_,h=>h
 | .emp _ _,_,h=>h
 | .prow _,_,h=>h
 | .pptr _ _,_,h=>h
 | .mp _,_,h=>h
 | .nptr _,_,h=>h
 | .itr _,_,h=>h
 | .nl,_,h=>h
theorem clo_self:∀(f:Nat) (l:List Nat),∀k∈l,k∈clo H (f+1) l
 | f,[],k,h=>by cases h
 | f,x::l,k,h=>by simp only[clo,List.mem_append];exact .inl h
theorem clo_mono:∀(f:Nat) (l m:List Nat),(∀k∈l,k∈m)→∀k∈clo H f l,k∈clo H f m
 | 0,_,_,_,k,h=>by cases h
 | f+1,[],m,_,k,h=>by cases h
 | f+1,x::l,m,hm,k,h=>by
  match m,hm with
  | [],hm=>exact absurd (hm x (by simp)) (by simp)
  | y::m,hm=>
   simp only[clo,List.mem_append] at h ⊢
   rcases h with h | h
   · exact .inl (hm k h)
   · refine .inr (clo_mono f _ _ (fun j hj => ?_) k h)
     obtain⟨q,hq,hj⟩:=List.mem_flatMap.1 hj
     exact List.mem_flatMap.2 ⟨q,hm q hq,hj⟩
theorem reachH_local:∀(f:Nat) (l acc:List Nat),(∀k∈clo H f l,H' k=H k)→reachH H' f l acc=reachH H f l acc
 | 0,_,_,_=>rfl
 | f+1,[],_,_=>rfl
 | f+1,x::l,acc,h=>by
  simp only[clo,List.mem_append] at h
  have h1:∀k∈x::l,H' k=H k:=fun k hk=>h k (.inl hk)
  have e1:((x::l).flatMap fun k=>(H' k).refs)=(x::l).flatMap fun k=>(H k).refs:=by
   rw[List.flatMap_def,List.flatMap_def]
   congr 1
   exact List.map_congr_left fun k hk=>by rw[h1 k hk]
  have e2:((x::l).filter fun k=>(H' k).live)=(x::l).filter fun k=>(H k).live:=List.filter_congr fun k hk=>by rw[h1 k hk]
  simp only[reachH]
  rw[e1,e2,reachH_local f _ _ fun k hk=>h k (.inr hk)]
theorem addNew_mem:∀(l acc:List Nat),∀k∈addNew acc l,k∈acc∨k∈l
 | [],acc,k,h=>.inl h
 | x::l,acc,k,h=>by
  rcases addNew_mem l _ k h with h | h
  · cases hc:acc.contains x with
    | true=>rw[hc] at h;exact .inl h
    | false=>
     rw[hc,cond_false,List.mem_append] at h
     rcases h with h | h
     · exact .inl h
     · simp at h;exact .inr (by simp[h])
  · exact .inr (by simp[h])
theorem reachH_mem:∀(f:Nat) (l acc:List Nat),∀k∈reachH H f l acc,k∈acc∨k∈clo H f l
 | 0,_,acc,k,h=>.inl h
 | f+1,[],acc,k,h=>.inl h
 | f+1,x::l,acc,k,h=>by
  rcases reachH_mem f _ _ k h with h | h
  · rcases addNew_mem _ _ k h with h | h
    · exact .inl h
    · refine .inr ?_
      simp only[clo,List.mem_append]
      exact .inl (List.mem_filter.1 h).1
  · refine .inr ?_
    simp only[clo,List.mem_append]
    exact .inr h
theorem clo_more:∀(f:Nat) (l:List Nat),∀k∈clo H f l,k∈clo H (f+1) l
 | 0,_,k,h=>by cases h
 | f+1,[],k,h=>by cases h
 | f+1,x::l,k,h=>by
  rw[clo] at h ⊢
  · simp only[List.mem_append] at h ⊢
    exact h.imp id (clo_more f _ k)
  all_goals simp
theorem call2_local (g:FuncId) (args:List AV) (lends:Bool) (h:∀k∈clo H 9 (args.flatMap AV.refs),H' k=H k):semCall2 env H' nid g args lends=semCall2 env H nid g args lends:=by
 have h0:∀a∈args,∀k∈a.refs,H' k=H k:=fun a ha k hk=>h k (clo_self 8 _ k (List.mem_flatMap.2 ⟨a,ha,hk⟩))
 have e1:(bif lends then args.map (AV.lendR H') else args)=bif lends then args.map (AV.lendR H) else args:=by
  cases lends with
  | false=>rfl
  | true=>exact List.map_congr_left fun a ha=>lendR_local a (h0 a ha)
 have hsub:∀k∈(bif lends then args.map (AV.lendR H) else args).flatMap AV.refs,k∈args.flatMap AV.refs:=by
  intro k hk
  cases lends with
  | false=>exact hk
  | true=>
   obtain⟨b,hb,hk⟩:=List.mem_flatMap.1 hk
   obtain⟨a,ha,rfl⟩:=List.mem_map.1 hb
   exact List.mem_flatMap.2 ⟨a,ha,lendR_refs a k hk⟩
 unfold semCall2
 rw[e1]
 generalize (bif lends then args.map (AV.lendR H) else args)=as1 at hsub ⊢
 have h8:∀k∈clo H 8 (as1.flatMap AV.refs),H' k=H k:=by
  intro k hk
  refine h k ?_
  have:=clo_mono 8 _ _ hsub k hk
  exact clo_more 8 _ k this
 have e2:=reachH_local 8 (as1.flatMap AV.refs) [] h8
 simp only[e2]
 have e3:((reachH H 8 (as1.flatMap AV.refs) []).map fun k=>(H' k).ren (reachH H 8 (as1.flatMap AV.refs) []))=(reachH H 8 (as1.flatMap AV.refs) []).map fun k=>(H k).ren (reachH H 8 (as1.flatMap AV.refs) []):=by
  refine List.map_congr_left fun k hk => ?_
  rcases reachH_mem 8 _ _ k hk with hk | hk
  · cases hk
  · rw[h8 k hk]
 have e4:∀(P l:List Nat) (m:List (Option Ob)),(∀k∈l,H' k=H k)→oldsIn H' P l m=oldsIn H P l m:=by
  intro P l
  induction l with
  | nil=>intro m _;cases m<;>rfl
  | cons k l ih=>
   intro m hl
   match m with
   | []=>rfl
   | none::m=>simp only[oldsIn];rw[hl k (by simp),ih m fun j hj=>hl j (by simp[hj])]
   | some o::m=>simp only[oldsIn];exact ih m fun j hj=>hl j (by simp[hj])
 have e5:∀m,oldsIn H' (reachH H 8 (as1.flatMap AV.refs) []) (reachH H 8 (as1.flatMap AV.refs) []) m=oldsIn H (reachH H 8 (as1.flatMap AV.refs) []) (reachH H 8 (as1.flatMap AV.refs) []) m:=fun m=>e4 _ _ m fun k hk=>by
  rcases reachH_mem 8 _ _ k hk with hk | hk
  · cases hk
  · exact h8 k hk
 have e6:(reachH H 8 (as1.flatMap AV.refs) []).all (fun k=>(H' k).noIt)=(reachH H 8 (as1.flatMap AV.refs) []).all fun k=>(H k).noIt:=by
  rw[Bool.eq_iff_iff,List.all_eq_true,List.all_eq_true]
  have h9:∀k∈reachH H 8 (as1.flatMap AV.refs) [],H' k=H k:=fun k hk=>by
   rcases reachH_mem 8 _ _ k hk with hk | hk
   · cases hk
   · exact h8 k hk
  exact⟨fun hh k hk=>by rw[←h9 k hk];exact hh k hk,fun hh k hk=>by rw[h9 k hk];exact hh k hk⟩
 rw[e3,e6]
 simp only[e5]
theorem elems_local (a:AV) (h:∀k∈a.refs,H' k=H k):elems H' a=elems H a:=by
 cases a<;>simp only[elems]
 case row k=>rw[h k (by simp[AV.refs])]
 case view k lo n e t=>simp only[viewOf,h k (by simp[AV.refs])]
theorem typed_refs (t:TypeId) (a:AV):(typed T t a).refs=a.refs:=by
 cases a<;>simp only[typed]
 split
 · split<;>rfl
 · rfl
theorem toList_refs:∀(a:AV),∀x∈a.toList,∀k∈x.refs,k∈a.refs
 | .cons a b,x,hx,k,hk=>by
  simp only[AV.toList,List.mem_cons] at hx
  simp only[AV.refs,List.mem_append]
  rcases hx with rfl | hx
  · exact .inl hk
  · exact .inr (toList_refs b x hx k hk)
 | .nl,x,hx,_,_=>by simp[AV.toList] at hx
 | .undef,x,hx,_,_=>by simp[AV.toList] at hx
 | .int _ _,x,hx,_,_=>by simp[AV.toList] at hx
 | .bool _,x,hx,_,_=>by simp[AV.toList] at hx
 | .str _,x,hx,_,_=>by simp[AV.toList] at hx
 | .nilp,x,hx,_,_=>by simp[AV.toList] at hx
 | .nilf,x,hx,_,_=>by simp[AV.toList] at hx
 | .nili,x,hx,_,_=>by simp[AV.toList] at hx
 | .nil0,x,hx,_,_=>by simp[AV.toList] at hx
 | .nils _ _,x,hx,_,_=>by simp[AV.toList] at hx
 | .ptr _ _,x,hx,_,_=>by simp[AV.toList] at hx
 | .row _,x,hx,_,_=>by simp[AV.toList] at hx
 | .rptr _ _ _,x,hx,_,_=>by simp[AV.toList] at hx
 | .list _ _ _,x,hx,_,_=>by simp[AV.toList] at hx
 | .tl _ _ _,x,hx,_,_=>by simp[AV.toList] at hx
 | .lptr _ _ _ _ _,x,hx,_,_=>by simp[AV.toList] at hx
 | .emp _ _,x,hx,_,_=>by simp[AV.toList] at hx
 | .view _ _ _ _ _,x,hx,_,_=>by simp[AV.toList] at hx
 | .prow _,x,hx,_,_=>by simp[AV.toList] at hx
 | .pptr _ _,x,hx,_,_=>by simp[AV.toList] at hx
 | .mp _,x,hx,_,_=>by simp[AV.toList] at hx
 | .nptr _,x,hx,_,_=>by simp[AV.toList] at hx
 | .itr _,x,hx,_,_=>by simp[AV.toList] at hx
 | .agg _,x,hx,_,_=>by simp[AV.toList] at hx
 | .tuple _,x,hx,_,_=>by simp[AV.toList] at hx
 | .fn _ _ _,x,hx,_,_=>by simp[AV.toList] at hx
 | .iface _ _,x,hx,_,_=>by simp[AV.toList] at hx
theorem isNil_local (a:AV) (h:∀k∈a.refs,H' k=H k):isNil H' a=isNil H a:=by
 unfold isNil
 split<;>try rfl
 rename_i k
 rw[h k (by simp[AV.refs])]
theorem call_local (types:List TypeId) (f:AV) (xs:List AV) (h:∀k∈clo H 9 (f.refs++xs.flatMap AV.refs),H' k=H k):semCall T env H' nid types f xs=semCall T env H nid types f xs:=by
 have h1:∀k∈f.refs,H' k=H k:=fun k hk=>h k (clo_self 8 _ k (by simp only[List.mem_append];exact .inl hk))
 have h2:∀x∈xs,∀k∈x.refs,H' k=H k:=fun x hx k hk=>h k (clo_self 8 _ k (by simp only[List.mem_append,List.mem_flatMap];exact .inr ⟨x,hx,hk⟩))
 cases f<;>simp only[semCall]
 rename_i g a c
 cases g<;>simp only
 rename_i g
 have hmem:∀x∈a.toList++(xs.zipIdx.map fun p=>typed T (types.getD p.2 0) p.1)++c.toList,∀k∈x.refs,k∈(AV.fn (.func g) a c).refs++xs.flatMap AV.refs:=by
  intro x hx k hk
  simp only[List.mem_append] at hx ⊢
  rcases hx with (hx | hx) | hx
  · exact .inl (by simp only[AV.refs,List.mem_append];exact .inl (toList_refs a x hx k hk))
  · obtain⟨p,hp,rfl⟩:=List.mem_map.1 hx
    rw[typed_refs] at hk
    exact .inr (List.mem_flatMap.2 ⟨p.1,List.fst_mem_of_mem_zipIdx hp,hk⟩)
  · exact .inl (by simp only[AV.refs,List.mem_append];exact .inr (toList_refs c x hx k hk))
 have e:(a.toList++(xs.zipIdx.map fun p=>typed T (types.getD p.2 0) p.1)++c.toList).map (AV.lend H')=(a.toList++(xs.zipIdx.map fun p=>typed T (types.getD p.2 0) p.1)++c.toList).map (AV.lend H):=by
  apply List.map_congr_left
  intro x hx
  apply lend_local
  intro k hk
  exact h k (clo_self 8 _ k (hmem x hx k hk))
 have e2:∀b,semCall2 env H' nid g (a.toList++(xs.zipIdx.map fun p=>typed T (types.getD p.2 0) p.1)++c.toList) b=semCall2 env H nid g (a.toList++(xs.zipIdx.map fun p=>typed T (types.getD p.2 0) p.1)++c.toList) b:=by
  intro b
  refine call2_local _ _ b fun k hk=>h k (clo_mono 9 _ _ ?_ k hk)
  intro j hj
  obtain⟨x,hx,hj⟩:=List.mem_flatMap.1 hj
  exact hmem x hx j hj
 rw[e,e2,e2]
theorem slice_local (d:TD) (x:AV) (lo hi:Option AV) (h:∀k∈x.refs,H' k=H k):semSlice T H' d x lo hi=semSlice T H d x lo hi:=by
 unfold semSlice
 cases d<;>cases x<;>try rfl
 all_goals
  simp only[AV.refs,List.mem_singleton,forall_eq] at h
  simp only[h]
theorem cut_local (d:TD) (x:AV) (lo hi:Option AV) (h:∀k∈x.refs,H' k=H k):semCut T H' nid d x lo hi=semCut T H nid d x lo hi:=by
 cases x<;>cases d<;>try rfl
 simp only[AV.refs,List.mem_singleton,forall_eq] at h
 cases lo<;>try rfl
 cases hi with
 | none=>rfl
 | some y=>
  cases y<;>try rfl
  simp only[semCut]
  rw[h]
theorem semOp_local (o:Oper) (h:∀k∈readsOf ev H o,H' k=H k):semOp T env ev H' nid o=semOp T env ev H nid o:=by
 unfold readsOf at h
 unfold semOp
 cases ho:o.op<;>simp only[ho] at h ⊢
 case load t x=>cases hx:ev x<;>simp only[hx,AV.refs,List.mem_singleton,forall_eq] at h ⊢ <;> rw[h]
 case store t x y=>
  cases hx:ev x<;>simp only[hx] at h ⊢
  case rptr k i off=>
   rw[h k (by simp)]
   cases hk:H k<;>simp only
   case hrow e ty xs i0 off0=>
    cases hy:ev y<;>simp only
    rename_i j
    rw[h j (by simp[hy,AV.refs])]
  all_goals (simp only[AV.refs,List.mem_singleton,forall_eq] at h;rw[h])
 case lookup t x i b=>
  cases b with
  | true=>rfl
  | false=>cases hx:ev x<;>simp only[hx,AV.refs,List.mem_singleton,forall_eq] at h ⊢ <;> rw[h]
 case mapUpdate t x i y=>cases hx:ev x<;>simp only[hx,AV.refs,List.mem_singleton,forall_eq] at h ⊢ <;> rw[h]
 case mapEntry t x i=>cases hx:ev x<;>simp only[hx,AV.refs,List.mem_singleton,forall_eq] at h ⊢ <;> rw[h]
 case entryStore t x i y=>cases hx:ev x<;>simp only[hx,AV.refs,List.mem_singleton,forall_eq] at h ⊢ <;> rw[h]
 case range t x=>cases hx:ev x<;>simp only[hx,AV.refs,List.mem_singleton,forall_eq] at h ⊢ <;> rw[h]
 case entry x=>
  cases hx:ev x<;>simp only[hx] at h ⊢
  rename_i k
  have h1:=h k (by simp)
  rw[h1]
  cases hk:H k<;>simp only
  rename_i m n seen cur
  rw[h m (by simp[hk,Ob.refs])]
 case indexAddr t x i=>cases hx:ev x<;>simp only[hx,AV.refs,List.mem_singleton,forall_eq] at h ⊢ <;> rw[h]
 case slice t x lo hi mx=>
  cases mx with
  | some m=>cases lo<;>cases hi<;>rfl
  | none=>
   have e:(bif env.eats.contains (o.dst.getD 0) then semCut T H' nid (T.at_ t).d (ev x) (lo.map ev) (hi.map ev) else semSlice T H' (T.at_ t).d (ev x) (lo.map ev) (hi.map ev))=bif env.eats.contains (o.dst.getD 0) then semCut T H nid (T.at_ t).d (ev x) (lo.map ev) (hi.map ev) else semSlice T H (T.at_ t).d (ev x) (lo.map ev) (hi.map ev):=by
    rw[slice_local _ _ _ _ h,cut_local _ _ _ _ h]
   cases lo<;>cases hi<;>exact e
 case binOp op t x y t'=>
  rw[isNil_local (ev x) h]
 case convert t t' x=>
  have e:elems H' (typed T t (ev x))=elems H (typed T t (ev x)):=elems_local _ fun k hk=>h k (by rwa [typed_refs] at hk)
  generalize ev x=v at h e ⊢
  split
  · rfl
  · simp only[semBytes,e]
  · rfl
 case call c=>
  cases hc:c.callee<;>simp only[hc] at h ⊢
  case builtin b=>
   simp only[semBuiltin]
   split
   · rename_i x hx
     split
     · rename_i t ht
       split
       · have e:elems H' (typed T t x)=elems H (typed T t x):=by
          apply elems_local
          intro k hk
          rw[typed_refs] at hk
          apply h
          obtain⟨y,hy⟩:∃y,c.args.toList=[y]∧ev y=x:=by
           match hl:c.args.toList,hx with
           | [y],hx=>simp at hx;exact⟨y,rfl,hx⟩
          rw[hy.1]
          simp only[List.flatMap_cons,List.flatMap_nil,List.append_nil,hy.2]
          exact hk
         have e3:∀k∈(typed T t x).refs,H' k=H k:=by
          intro k hk
          rw[typed_refs] at hk
          apply h
          obtain⟨y,hy⟩:∃y,c.args.toList=[y]∧ev y=x:=by
           match hl:c.args.toList,hx with
           | [y],hx=>simp at hx;exact⟨y,rfl,hx⟩
          rw[hy.1]
          simp only[List.flatMap_cons,List.flatMap_nil,List.append_nil,hy.2]
          exact hk
         cases hy:typed T t x<;>simp only[hy] at e e3 ⊢ <;> first
          | rw[e3 _ (by simp[AV.refs]),e]
          | rw[e]
          | rw[e3 _ (by simp[AV.refs])]
       · rfl
       · have e3:∀k∈x.refs,H' k=H k:=by
          intro k hk
          apply h
          obtain⟨y,hy⟩:∃y,c.args.toList=[y]∧ev y=x:=by
           match hl:c.args.toList,hx with
           | [y],hx=>simp at hx;exact⟨y,rfl,hx⟩
          rw[hy.1]
          simp only[List.flatMap_cons,List.flatMap_nil,List.append_nil,hy.2]
          exact hk
         cases hy:x<;>simp only[hy,AV.refs,List.mem_singleton,forall_eq] at e3 ⊢
         rw[e3]
       · rfl
       · rfl
     · rfl
   · rename_i s x hx
     split
     · obtain⟨y,z,hy⟩:∃y z,c.args.toList=[y,z]∧ev y=s∧ev z=x:=by
        match hl:c.args.toList,hx with
        | [y,z],hx=>simp at hx;exact⟨y,z,rfl,hx⟩
       rw[hy.1] at h
       simp only[List.flatMap_cons,List.flatMap_nil,List.append_nil,hy.2.1,hy.2.2,List.mem_append] at h
       generalize c.argTypes.toList.getD 0 0=t
       have e1:elems H' (typed T t x)=elems H (typed T t x):=elems_local _ fun k hk=>h k (.inr (by rwa [typed_refs] at hk))
       have e2:∀k∈(typed T t s).refs,H' k=H k:=fun k hk=>h k (.inl (by rwa [typed_refs] at hk))
       have e3:∀k∈s.refs,H' k=H k:=fun k hk=>h k (.inl hk)
       have e4:∀k∈x.refs,H' k=H k:=fun k hk=>h k (.inr hk)
       have eA:semAppend T H' nid t s (typed T t x)=semAppend T H nid t s (typed T t x):=by
        unfold semAppend
        rw[e1]
        cases hd:(T.at_ t).d<;>simp only
        split
        · split
          · cases hs:typed T t s<;>simp only[hs,AV.refs,List.mem_singleton,forall_eq] at e2 ⊢
            · rw[e2]
            · simp only[viewOf,e2]
          · rfl
        · rfl
       split
       · unfold semAppendP
         rw[e3 _ (by simp[AV.refs]),e4 _ (by simp[AV.refs])]
       · rw[eA]
         unfold semAppendO
         rw[e3 _ (by simp[AV.refs]),e4 _ (by simp[AV.refs])]
       · exact eA
     · rfl
   · rfl
   · rfl
   · rename_i x hx
     split
     · have e3:∀k∈x.refs,H' k=H k:=by
        intro k hk
        apply h
        obtain⟨y,hy⟩:∃y,c.args.toList=[y]∧ev y=x:=by
         match hl:c.args.toList,hx with
         | [y],hx=>simp at hx;exact⟨y,rfl,hx⟩
        rw[hy.1]
        simp only[List.flatMap_cons,List.flatMap_nil,List.append_nil,hy.2]
        exact hk
       unfold semClear
       cases hy:x<;>simp only[hy,AV.refs,List.mem_singleton,forall_eq] at e3 ⊢ <;> first
        | (cases (T.at_ _).d<;>first | rfl | (simp only[e3]))
     · rfl
   · rfl
  case value f=>
   apply call_local
   intro k hk
   apply h
   rw[List.flatMap_map] at hk
   exact hk
end
end Go.Proofs.YtkpjcmiijlpcaaaDoor.Aw
