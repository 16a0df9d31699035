/- An abstract program logic over the model, fifth part: what is known of types holds; single. -/
import Derived.Test.YtkpjcmiijlpcaaaDoorAwD
import Derived.Laws.StructEq
import Derived.ChangeKeysEq
import Derived.Laws.Slices
import Derived.Laws.Concat
namespace Go.Proofs.YtkpjcmiijlpcaaaDoor.Aw
open Go
def notAgg:TypeDesc→Bool
 | .struct _=>false
 | .array _ _=>false
 | _=>true
def aggV:Value→Bool
 | .agg _=>true
 | _=>false
def aggD:TypeDesc→Bool
 | .struct _=>true
 | .array _ _=>true
 | _=>false
def zeroShape (P:Program) (e:TypeId):Bool:=match P.info? e,P.underlying e with
 | some f,some d=>match f.zero with
  | some z=>aggV z==aggD d
  | none=>false
 | _,_=>false
def DescOk (P:Program) (t:TypeId) (i:TI):Prop:=match i.d with
 | .unk=>True
 | .scalar=>∃d,P.underlying t=some d∧notAgg d=true∧(∀k,i.t=some (.int k)→d=.int k)∧(i.t=some .bool→d=.bool)∧(i.t=some .str→d=.string)∧(i.zero=[.nilp]→∃e,d=.pointer e)
 | .slice e=>P.underlying t=some (.slice e)
 | .struct fs=>∃fields:Array Field,P.underlying t=some (.struct fields)∧fields.toList.map (fun f=>(f.offset,f.type))=fs∧∀f∈fields.toList,(P.info? f.type).isSome=true
 | .array n e=>P.underlying t=some (.array n e)∧(P.info? e).isSome=true
 | .map k e=>P.underlying t=some (.map k e)∧P.underlying k=some (.int .i64)∧zeroShape P e=true
structure TIok (P:Program) (t:TypeId) (i:TI):Prop where
 info:∃f,P.info? t=some f∧f.size=i.size∧f.bytes=i.bytes∧∃z,f.zero=some z∧∀S w β H,VLs S w β H i.zero z.cells.toList
 zl:i.zero.length=i.size
 desc:DescOk P t i
 eq:i.eq=true→P.keyTypeAt 12 t=true∧P.eqGuardType P.depth t=false
def TabOk (P:Program) (T:Tab):Prop:=∀t,(T.at_ t).d≠.unk→TIok P t (T.at_ t)
section
variable {T:Tab} {S:Nat→Prop} {w:World} {β:Nat→Cr} {H:Nat→Ob}
theorem agg_of {t:TypeId} {l:List AV} {v:AV} {cs:List Value} (hv:VLs S w β H l cs) (ha:aggOf (T.at_ t) l=some v) :
 (∃fs,(T.at_ t).d=.struct fs∧cs.length=(T.at_ t).size∧VL S w β H v [.agg cs.toArray])∨(∃n e,(T.at_ t).d=.array n e∧cs.length=(T.at_ t).size∧VL S w β H v [.agg cs.toArray]) ∨
 ∃u,((T.at_ t).d=.scalar∨(∃e,(T.at_ t).d=.slice e)∨∃k e,(T.at_ t).d=.map k e)∧cs=[u]∧VL S w β H v [u]:=by
 unfold aggOf at ha
 split at ha
 · rename_i fs hd
   split at ha
   · rename_i hl
     cases ha
     exact .inl ⟨fs,hd,by rw[VLs.length _ _ hv];exact hl,cs,rfl,VLs.of_list _ _ hv⟩
   · cases ha
 · rename_i n e hd
   split at ha
   · rename_i hl
     cases ha
     exact .inr (.inl ⟨n,e,hd,by rw[VLs.length _ _ hv];exact hl,cs,rfl,VLs.of_list _ _ hv⟩)
   · cases ha
 · cases ha
 · rename_i h1 h2 h3
   split at ha
   · cases ha
     obtain⟨u,e,hu⟩:=VLs.one hv
     refine .inr (.inr ⟨u,?_,e,hu⟩)
     cases hd:(T.at_ t).d with
     | unk=>exact absurd hd h3
     | scalar=>exact .inl rfl
     | slice e=>exact .inr (.inl ⟨e,rfl⟩)
     | map k e=>exact .inr (.inr ⟨k,e,rfl⟩)
     | struct fs=>exact absurd hd (h1 fs)
     | array n e=>exact absurd hd (h2 n e)
   · cases ha
end
section
variable {P:Program} {T:Tab} (hT:TabOk P T) {S:Nat→Prop} {w:World} {β:Nat→Cr} {H:Nat→Ob}
include hT
theorem run_sizeOf {t:TypeId} (hk:(T.at_ t).d≠.unk) (w:World):(sizeOf t).run P w=.ok (T.at_ t).size w:=by
 obtain⟨f,h1,h2,_⟩:=(hT t hk).info
 simp[sizeOf,typeInfo,h1,h2]
theorem run_isAgg_yes {t:TypeId} {fs:List (Nat×TypeId)} (hd:(T.at_ t).d=.struct fs) (w:World):(isAgg t).run P w=.ok true w:=by
 have h:=(hT t (by rw[hd];simp)).desc
 unfold DescOk at h
 rw[hd] at h
 obtain⟨fields,h1,_,_⟩:=h
 unfold isAgg
 rw[Sem.run_bind,run_underlying h1 w]
 rfl
theorem run_isAgg_arr {t:TypeId} {n:Nat} {e:TypeId} (hd:(T.at_ t).d=.array n e) (w:World):(isAgg t).run P w=.ok true w:=by
 have h:=(hT t (by rw[hd];simp)).desc
 unfold DescOk at h
 rw[hd] at h
 unfold isAgg
 rw[Sem.run_bind,run_underlying h.1 w]
 rfl
theorem run_isAgg_no {t:TypeId} (hd:(T.at_ t).d=.scalar∨(∃e,(T.at_ t).d=.slice e)∨∃k e,(T.at_ t).d=.map k e) (w:World):(isAgg t).run P w=.ok false w:=by
 rcases hd with hd | ⟨e,hd⟩ | ⟨k,e,hd⟩
 · have h:=(hT t (by rw[hd];simp)).desc
   unfold DescOk at h
   rw[hd] at h
   obtain⟨d,h1,h2,_⟩:=h
   unfold isAgg
   rw[Sem.run_bind,run_underlying h1 w]
   cases d<;>first | rfl | simp[notAgg] at h2
 · have h:=(hT t (by rw[hd];simp)).desc
   unfold DescOk at h
   rw[hd] at h
   unfold isAgg
   rw[Sem.run_bind,run_underlying h w]
   rfl
 · have h:=(hT t (by rw[hd];simp)).desc
   unfold DescOk at h
   rw[hd] at h
   unfold isAgg
   rw[Sem.run_bind,run_underlying h.1 w]
   rfl
theorem load_of {t:TypeId} {l:List AV} {v:AV} {cs:List Value} {ad:Addr} (hv:VLs S w β H l cs) (ha:aggOf (T.at_ t) l=some v) (hc:∀j u,cs[j]? = some u→w.cell? (ad.add j)=some u) :
 ∃u,(loadVar t ad).run P w=.ok u w∧VL S w β H v [u]:=by
 rcases agg_of hv ha with ⟨fs,hd,hl,hx⟩ | ⟨n,e,hd,hl,hx⟩ | ⟨u,hd,e,hx⟩
 · refine⟨_,?_,hx⟩
   have h1:=run_loadCells_list (P:=P) w ad cs hc
   have h2:=run_sizeOf hT (t:=t) (by rw[hd];simp) w
   simp only[loadVar,Sem.run_bind,run_isAgg_yes hT hd w,Result.andThen_ok,if_true,h2,←hl,h1]
   rfl
 · refine⟨_,?_,hx⟩
   have h1:=run_loadCells_list (P:=P) w ad cs hc
   have h2:=run_sizeOf hT (t:=t) (by rw[hd];simp) w
   simp only[loadVar,Sem.run_bind,run_isAgg_arr hT hd w,Result.andThen_ok,if_true,h2,←hl,h1]
   rfl
 · refine⟨u,?_,hx⟩
   have h1:w.cell? ad=some u:=by
    have:=hc 0 u (by rw[e];rfl)
    rwa [show ad.add 0=ad by simp[Addr.add]] at this
   simp only[loadVar,Sem.run_bind,run_isAgg_no hT hd w,Result.andThen_ok,Bool.false_eq_true,if_false,run_load,h1]
theorem part_of {t:TypeId} {l:List AV} {v:AV} {cs:Array Value} {o:Nat} (hv:VLs S w β H l (cs.toList)) (ha:aggOf (T.at_ t) (cut l o (T.at_ t).size)=some v) :
 ∃u,(part t cs o).run P w=.ok u w∧VL S w β H v [u]:=by
 have hv':VLs S w β H (cut l o (T.at_ t).size) ((cs.toList.drop o).take (T.at_ t).size):=VLs.take _ _ _ (VLs.drop _ _ _ hv)
 have hex:cs.extract o (o+(T.at_ t).size)=((cs.toList.drop o).take (T.at_ t).size).toArray:=by
  apply Array.toList_inj.1
  simp[List.take_drop]
 rcases agg_of hv' ha with ⟨fs,hd,hl,hx⟩ | ⟨n,e,hd,hl,hx⟩ | ⟨u,hd,e,hx⟩
 · refine⟨_,?_,hx⟩
   have h2:=run_sizeOf hT (t:=t) (by rw[hd];simp) w
   simp only[part,Sem.run_bind,run_isAgg_yes hT hd w,Result.andThen_ok,if_true,h2,hex]
   rfl
 · refine⟨_,?_,hx⟩
   have h2:=run_sizeOf hT (t:=t) (by rw[hd];simp) w
   simp only[part,Sem.run_bind,run_isAgg_arr hT hd w,Result.andThen_ok,if_true,h2,hex]
   rfl
 · refine⟨u,?_,hx⟩
   have h1:cs[o]? = some u:=by
    have h:=congrArg (·[0]?) e
    simp only[List.getElem?_cons_zero] at h
    rw[List.getElem?_take] at h
    split at h
    · simpa using h
    · cases h
   simp only[part,Sem.run_bind,run_isAgg_no hT hd w,Result.andThen_ok,Bool.false_eq_true,if_false,h1]
   rfl
def Shape (T:Tab) (S:Nat→Prop) (w:World) (β:Nat→Cr) (H:Nat→Ob) (t:TypeId) (l:List AV) (a:Value):Prop:=match (T.at_ t).d with
 | .struct _=>∃cs:Array Value,a=.agg cs∧VLs S w β H l cs.toList
 | .array _ _=>∃cs:Array Value,a=.agg cs∧VLs S w β H l cs.toList
 | .scalar=>VLs S w β H l [a]
 | _=>False
theorem part_shape {t:TypeId} {l:List AV} {cs:Array Value} {o:Nat} (hv:VLs S w β H l cs.toList) (hd:(T.at_ t).d.isAgg=true∨((T.at_ t).d=.scalar∧∃x,cut l o (T.at_ t).size=[x])) :
 ∃u,(part t cs o).run P w=.ok u w∧Shape T S w β H t (cut l o (T.at_ t).size) u:=by
 have hv':VLs S w β H (cut l o (T.at_ t).size) ((cs.toList.drop o).take (T.at_ t).size):=VLs.take _ _ _ (VLs.drop _ _ _ hv)
 have hex:cs.extract o (o+(T.at_ t).size)=((cs.toList.drop o).take (T.at_ t).size).toArray:=by
  apply Array.toList_inj.1
  simp[List.take_drop]
 unfold Shape
 cases hdd:(T.at_ t).d with
 | unk=>rw[hdd] at hd;rcases hd with hd | ⟨hd,_⟩<;>cases hd
 | slice e=>rw[hdd] at hd;rcases hd with hd | ⟨hd,_⟩<;>cases hd
 | map k e=>rw[hdd] at hd;rcases hd with hd | ⟨hd,_⟩<;>cases hd
 | struct fs=>
  refine⟨_,?_,_,rfl,hv'⟩
  have h2:=run_sizeOf hT (t:=t) (by rw[hdd];simp) w
  simp only[part,Sem.run_bind,run_isAgg_yes hT hdd w,Result.andThen_ok,if_true,h2,hex]
  rfl
 | array n e=>
  refine⟨_,?_,_,rfl,hv'⟩
  have h2:=run_sizeOf hT (t:=t) (by rw[hdd];simp) w
  simp only[part,Sem.run_bind,run_isAgg_arr hT hdd w,Result.andThen_ok,if_true,h2,hex]
  rfl
 | scalar=>
  rw[hdd] at hd
  rcases hd with hd | ⟨_,x,hx⟩
  · cases hd
  · rw[hx] at hv'
    obtain⟨u,e,hu⟩:=VLs.one hv'
    refine⟨u,?_,by rw[hx];exact VLs.mk1 hu⟩
    have h1:cs[o]? = some u:=by
     have h:=congrArg (·[0]?) e
     simp only[List.getElem?_cons_zero] at h
     rw[List.getElem?_take] at h
     split at h
     · simpa using h
     · cases h
    simp only[part,Sem.run_bind,run_isAgg_no hT (.inl hdd) w,Result.andThen_ok,Bool.false_eq_true,if_false,h1]
    rfl
omit hT in
theorem scalar_one {ty:Option Ty} {l1 l2:List AV} {r:Bool} (h:scalarEq ty l1 l2=some r):(∃x,l1=[x])∧∃x,l2=[x]:=by
 unfold scalarEq at h
 split at h<;>first | exact⟨⟨_,rfl⟩,⟨_,rfl⟩⟩ | cases h
omit hT in
theorem eqA_kind {f:Nat} {t:TypeId} {l1 l2:List AV} {r:Bool} (h:eqA T f t l1 l2=some r):((T.at_ t).d.isAgg=true∨((T.at_ t).d=.scalar∧∃x,l1=[x]))∧((T.at_ t).d.isAgg=true∨((T.at_ t).d=.scalar∧∃x,l2=[x])):=by
 cases f with
 | zero=>cases h
 | succ f=>
  unfold eqA at h
  split at h
  · rename_i hd
    exact⟨.inr ⟨hd,(scalar_one h).1⟩,.inr ⟨hd,(scalar_one h).2⟩⟩
  · rename_i fs hd;rw[hd];exact⟨.inl rfl,.inl rfl⟩
  · rename_i n e hd;rw[hd];exact⟨.inl rfl,.inl rfl⟩
  · cases h
omit hT in
theorem andO_spec {a b:Option Bool} {r:Bool} (h:andO a b=some r):∃x y,a=some x∧b=some y∧r=(x&&y):=by
 unfold andO at h
 split at h
 · cases h;exact⟨_,_,rfl,rfl,rfl⟩
 · cases h
theorem eqFs_sound {f m d:Nat} {l1 l2:List AV} {xs ys:Array Value} (hx:VLs S w β H l1 xs.toList) (hy:VLs S w β H l2 ys.toList)
 (ih:∀(t:TypeId) (l1 l2:List AV) (a b:Value) (r:Bool),eqA T f t l1 l2=some r→P.keyTypeAt m t=true→Shape T S w β H t l1 a→Shape T S w β H t l2 b→(Op.equalIn d t a b).run P w=.ok r w) :
 ∀(fl:List Field) (r:Bool),eqFs (eqA T f) T l1 l2 (fl.map fun g=>(g.offset,g.type))=some r→(∀g∈fl,g.name ≠ "_" ∧ P.keyTypeAt m g.type=true)→(Op.eqFields d xs ys fl).run P w=.ok r w
 | [],r,h,_=>by
  simp only[List.map_nil,eqFs,Option.some.injEq] at h
  subst h
  simp[Op.eqFields]
 | g::fl,r,h,hg=>by
  simp only[List.map_cons,eqFs] at h
  obtain⟨x,y,h1,h2,rfl⟩:=andO_spec h
  obtain⟨hn,hk⟩:=hg g (by simp)
  obtain⟨q1,q2⟩:=eqA_kind h1
  obtain⟨u,p1,s1⟩:=part_shape hT hx q1
  obtain⟨v,p2,s2⟩:=part_shape hT hy q2
  have h3:=ih g.type _ _ u v x h1 hk s1 s2
  have h4:=eqFs_sound hx hy ih fl y h2 (fun g' hg'=>hg g' (by simp[hg']))
  simp only[Op.eqFields,if_pos hn,Sem.run_bind,p1,p2,h3,Result.andThen_ok]
  cases x
  · simp
  · simpa using h4
theorem eqIs_sound {f m d:Nat} {e:TypeId} {l1 l2:List AV} {xs ys:Array Value} (hx:VLs S w β H l1 xs.toList) (hy:VLs S w β H l2 ys.toList) (hk:P.keyTypeAt m e=true)
 (ih:∀(t:TypeId) (l1 l2:List AV) (a b:Value) (r:Bool),eqA T f t l1 l2=some r→P.keyTypeAt m t=true→Shape T S w β H t l1 a→Shape T S w β H t l2 b→(Op.equalIn d t a b).run P w=.ok r w) :
 ∀(is:List Nat) (r:Bool),eqIs (eqA T f) e (T.at_ e).size l1 l2 is=some r→(Op.eqItems d e (P.cellsOf e) xs ys is).run P w=.ok r w
 | [],r,h=>by
  simp only[eqIs,Option.some.injEq] at h
  subst h
  simp[Op.eqItems]
 | i::is,r,h=>by
  simp only[eqIs] at h
  obtain⟨x,y,h1,h2,rfl⟩:=andO_spec h
  obtain⟨q1,q2⟩:=eqA_kind h1
  have hu:(T.at_ e).d≠.unk:=by
   intro hd
   rw[hd] at q1
   rcases q1 with q | ⟨q,_⟩<;>cases q
  have hc:P.cellsOf e=(T.at_ e).size:=by
   obtain⟨inf,g1,g2,_⟩:=(hT e hu).info
   simp[Program.cellsOf,g1,g2]
  obtain⟨u,p1,s1⟩:=part_shape hT hx q1
  obtain⟨v,p2,s2⟩:=part_shape hT hy q2
  have h3:=ih e _ _ u v x h1 hk s1 s2
  have h4:=eqIs_sound hx hy hk ih is y h2
  rw[hc] at h4 ⊢
  simp only[Op.eqItems,Sem.run_bind,p1,p2,h3,Result.andThen_ok]
  cases x
  · simp
  · simpa using h4
theorem eqA_sound:∀(f:Nat) (m:Nat) (t:TypeId) (l1 l2:List AV) (a b:Value) (r:Bool) (d:Nat),eqA T f t l1 l2=some r→P.keyTypeAt m t=true→Shape T S w β H t l1 a→Shape T S w β H t l2 b →
 (Op.equalIn (d+f) t a b).run P w=.ok r w
 | 0,_,_,_,_,_,_,_,_,h,_,_,_=>by cases h
 | f+1,0,_,_,_,_,_,_,_,_,hk,_,_=>by simp[Program.keyTypeAt] at hk
 | f+1,m+1,t,l1,l2,a,b,r,d,h,hk,ha,hb=>by
  unfold eqA at h
  unfold Program.keyTypeAt at hk
  rw[show d+(f+1)=(d+f)+1 by omega]
  split at h
  · rename_i hd
    have hdesc:=(hT t (by rw[hd];simp)).desc
    unfold DescOk at hdesc
    rw[hd] at hdesc
    obtain⟨dd,h1,_,k1,k2,k3,_⟩:=hdesc
    simp only[Shape,hd] at ha hb
    unfold scalarEq at h
    split at h
    · rename_i k0 k a' k' b' hty
      split at h
      · rename_i hkk
        subst hkk
        cases h
        obtain⟨u,e1,hu⟩:=VLs.one ha
        obtain⟨v,e2,hv⟩:=VLs.one hb
        cases e1
        cases e2
        obtain⟨_,q,hu⟩:=hu
        cases q
        obtain⟨_,q,hv⟩:=hv
        cases q
        rw[show a=_ from hu,show b=_ from hv]
        exact run_equalIn_int w _ t _ _ _ _ (by rw[h1,k1 k0 hty])
      · cases h
    · rename_i a' b' hty
      cases h
      obtain⟨u,e1,hu⟩:=VLs.one ha
      obtain⟨v,e2,hv⟩:=VLs.one hb
      cases e1
      cases e2
      obtain⟨_,q,hu⟩:=hu
      cases q
      obtain⟨_,q,hv⟩:=hv
      cases q
      rw[show a=_ from hu,show b=_ from hv]
      exact run_equalIn_bool' w _ t _ _ (by rw[h1,k2 hty])
    · rename_i a' b' hty
      cases h
      obtain⟨u,e1,hu⟩:=VLs.one ha
      obtain⟨v,e2,hv⟩:=VLs.one hb
      cases e1
      cases e2
      obtain⟨_,q,hu⟩:=hu
      cases q
      obtain⟨_,q,hv⟩:=hv
      cases q
      rw[show a=_ from hu,show b=_ from hv]
      have hu':P.underlying t=some .string:=by rw[h1,k3 hty]
      simp[Op.equalIn,run_underlying hu']
    · cases h
  · rename_i fs hd
    have hdesc:=(hT t (by rw[hd];simp)).desc
    unfold DescOk at hdesc
    rw[hd] at hdesc
    obtain⟨fields,h1,h2,_⟩:=hdesc
    simp only[Shape,hd] at ha hb
    obtain⟨xs,rfl,hx⟩:=ha
    obtain⟨ys,rfl,hy⟩:=hb
    simp only[h1,Bool.and_eq_true,Bool.not_eq_true'] at hk
    have hf:P.fieldsOf t=fields:=by simp[Program.fieldsOf,h1]
    rw[run_equalIn_struct (P:=P) w (d+f) t xs ys (by rw[hf];exact h1) hk.2,hf]
    refine eqFs_sound hT (f:=f) (m:=m) hx hy (fun t' l1' l2' a' b' r' q1 q2 q3 q4=>eqA_sound f m t' l1' l2' a' b' r' d q1 q2 q3 q4) fields.toList r (by rw[h2];exact h) ?_
    intro g hg
    have:=Array.all_eq_true_iff_forall_mem.1 hk.1.1 g (Array.mem_toList_iff.1 hg)
    simpa [Bool.and_eq_true] using this
  · rename_i n e hd
    have hdesc:=(hT t (by rw[hd];simp)).desc
    unfold DescOk at hdesc
    rw[hd] at hdesc
    obtain⟨h1,h2⟩:=hdesc
    simp only[Shape,hd] at ha hb
    obtain⟨xs,rfl,hx⟩:=ha
    obtain⟨ys,rfl,hy⟩:=hb
    simp only[h1] at hk
    obtain⟨i,hi⟩:=Option.isSome_iff_exists.1 h2
    rw[run_equalIn_array w (d+f) xs ys h1 hi]
    exact eqIs_sound hT (f:=f) (m:=m) hx hy hk (fun t' l1' l2' a' b' r' q1 q2 q3 q4=>eqA_sound f m t' l1' l2' a' b' r' d q1 q2 q3 q4) (List.range n) r h
  · cases h
end
end Go.Proofs.YtkpjcmiijlpcaaaDoor.Aw
namespace Go.Proofs.YtkpjcmiijlpcaaaDoor.Aw
open Go
theorem add_add (a:Addr) (m n:Nat):(a.add m).add n=a.add (m+n):=by
 by_cases hm:m=0
 · subst hm;simp[Addr.add]
 · by_cases hn:n=0
   · subst hn;simp[Addr.add]
   · simp[Addr.add,hm,hn,Nat.add_assoc]
theorem add_lit (g o n:Nat):(⟨g,o,none⟩:Addr).add n=⟨g,o+n,none⟩:=by unfold Addr.add;split<;>simp_all
theorem wp_val {P:Program} {o:Oper} {a:Act} {w w':World} {v:Value} {s:Sem Value} {next:Act→World→Prop} {Q:Exit→Act→World→Prop} (he:execOp a.eval o=(do pure (Next.value (←s)))) (hr:s.run P w=.ok v w') (h:next (a.put o.dst v) w'):o.wp P a w next Q:=by
 unfold Oper.wp
 rw[he]
 simp only[Sem.run_bind,hr,Result.andThen_ok,Sem.run_pure]
 exact h
theorem wp_unit {P:Program} {o:Oper} {a:Act} {w w':World} {s:Sem Unit} {next:Act→World→Prop} {Q:Exit→Act→World→Prop} (he:execOp a.eval o=(do s;pure Next.skip)) (hr:s.run P w=.ok () w') (h:next (a.put o.dst undef) w'):o.wp P a w next Q:=by
 unfold Oper.wp
 rw[he]
 simp only[Sem.run_bind,hr,Result.andThen_ok,Sem.run_pure]
 exact h
structure Cx (P:Program) (T:Tab) (M S0:Nat→Prop) (w0:World) (S:Nat→Prop) (β:Nat→Cr) (H:Nat→Ob) (w:World) (a:Act) (ev:Operand→AV) (nid:Nat) (r:Res):Prop where
 hT:TabOk P T
 rel:Rel M S0 w0 S β H w
 hev:∀x,VL S w β H (ev x) [a.eval x]
 hnid:∀p∈r.upd,nid≤p.1→H p.1=.none
 hgs:∀g∈r.gs,g
def Goes (P:Program) (M S0:Nat→Prop) (w0:World) (S:Nat→Prop) (β:Nat→Cr) (H:Nat→Ob) (w:World) (o:Oper) (a:Act) (r:Res):Prop:=
 ∀(next:Act→World→Prop) (Q:Exit→Act→World→Prop),(∀v w' S' β',Rel M S0 w0 S' β' (updH H r.upd) w'→VL S' w' β' (updH H r.upd) r.v [v]→Ext S w β H S' w' β' (updH H r.upd)→next (a.put o.dst v) w')→o.wp P a w next Q
section
variable {P:Program} {T:Tab} {env:Env} {M S0:Nat→Prop} {w0:World} {S:Nat→Prop} {β:Nat→Cr} {H:Nat→Ob} {w:World} {o:Oper} {a:Act} {ev:Operand→AV} {nid:Nat} {r:Res}
theorem Cx.fresh (c:Cx P T M S0 w0 S β H w a ev nid r) (h:nid∈r.upd.map (·.1)):H nid=.none:=by
 obtain⟨p,hp,e⟩:=List.mem_map.1 h
 have:=c.hnid p hp (by omega)
 rwa [e] at this
theorem goes_same (c:Cx P T M S0 w0 S β H w a ev nid r) (hu:r.upd=[]) {s:Sem Value} {u:Value} (he:execOp a.eval o=(do pure (Next.value (←s)))) (hr:s.run P w=.ok u w) (hv:VL S w β H r.v [u]):Goes P M S0 w0 S β H w o a r:=by
 intro next Q hn
 refine wp_val he hr (hn u w S β ?_ ?_ ?_)
 · rw[hu,updH_nil];exact c.rel
 · rw[hu,updH_nil];exact hv
 · rw[hu,updH_nil];exact Ext.refl _ _ _ _
theorem VL.int {k:IntKind} {n:Int} {u:Value} (h:VL S w β H (.int k n) [u]):u=.int k n:=by obtain⟨v,e,hl⟩:=h;cases e;exact hl
theorem VL.bool {b:Bool} {u:Value} (h:VL S w β H (.bool b) [u]):u=.bool b:=by obtain⟨v,e,hl⟩:=h;cases e;exact hl
theorem VL.typed {x:AV} {ty:TypeId} {u:Value} (h:VL S w β H x [u]):VL S w β H (typed T ty x) [u]:=by
 cases x with
 | nil0=>
  simp only[Aw.typed]
  split
  · split
    · exact h
    · exact h
  · exact h
 | _=>exact h
theorem toV_of {x:AV} {u v:Value} (h:VL S w β H x [u]) (ht:toV x=some v):u=v:=by
 cases x<;>simp only[toV] at ht<;>first | (cases ht;obtain⟨v,e,hl⟩:=h;cases e;exact hl) | cases ht
theorem ofV_of {x:AV} {u:Value} (h:ofV u=some x):VL S w β H x [u]:=by
 unfold ofV at h
 split at h<;>first | (cases h;exact⟨_,rfl,rfl⟩) | cases h
theorem ofSem_of {x:AV} {s:Sem Value} (h:ofSem s=some x):∃u,s=.pure u∧VL S w β H x [u]:=by
 unfold ofSem at h
 split at h
 · rename_i u
   exact⟨u,rfl,ofV_of h⟩
 · cases h
theorem s_move {x:Operand} (ho:o.op=.move x) (c:Cx P T M S0 w0 S β H w a ev nid r) (hs:semOp T env ev H nid o=some r):Goes P M S0 w0 S β H w o a r:=by
 simp only[semOp,ho,ok,Option.some.injEq] at hs
 subst hs
 exact goes_same c rfl (s:=pure (a.eval x)) (by simp only[execOp,ho];rfl) rfl (VL.typed (c.hev x))
theorem s_assign {x:Operand} (ho:o.op=.assign x) (c:Cx P T M S0 w0 S β H w a ev nid r) (hs:semOp T env ev H nid o=some r):Goes P M S0 w0 S β H w o a r:=by
 simp only[semOp,ho,ok,Option.some.injEq] at hs
 subst hs
 exact goes_same c rfl (s:=pure (a.eval x)) (by simp only[execOp,ho];rfl) rfl (VL.typed (c.hev x))
theorem s_pick {x y z:Operand} (ho:o.op=.pick x y z) (c:Cx P T M S0 w0 S β H w a ev nid r) (hs:semOp T env ev H nid o=some r):Goes P M S0 w0 S β H w o a r:=by
 simp only[semOp,ho] at hs
 split at hs
 · rename_i s hx
   have h1:=c.hev x
   rw[hx] at h1
   have h1:=VL.bool h1
   have hy:=c.hev y
   have hz:=c.hev z
   refine goes_same (u:=if s then a.eval y else a.eval z) c ?_ (s:=do pure (if ←asBool (a.eval x) then a.eval y else a.eval z)) (by simp only[execOp,ho,bind_assoc,pure_bind]) ?_ ?_
   · split at hs<;>(simp only[ok,Option.some.injEq] at hs;rw[←hs])
   · rw[h1];rfl
   · split at hs
     · rename_i b1 b2 e1 e2
       simp only[ok,Option.some.injEq] at hs
       rw[←hs]
       rw[e1] at hy
       rw[e2] at hz
       cases s
       · exact hz
       · exact hy
     · simp only[ok,Option.some.injEq] at hs
       rw[←hs]
       cases s
       · exact hz
       · exact hy
 · cases hs
theorem s_un {op:UnOp} {t:TypeId} {x:Operand} (ho:o.op=.unOp op t x) (c:Cx P T M S0 w0 S β H w a ev nid r) (hs:semOp T env ev H nid o=some r):Goes P M S0 w0 S β H w o a r:=by
 simp only[semOp,ho] at hs
 split at hs
 · rename_i vx hx
   obtain⟨y,h1,h2⟩:=Option.bind_eq_some_iff.1 hs
   simp only[ok,Option.some.injEq] at h2
   obtain⟨u,e,hu⟩:=ofSem_of (S:=S) (w:=w) (β:=β) (H:=H) h1
   have hv:=toV_of (c.hev x) hx
   refine goes_same (u:=u) c (by rw[←h2]) (s:=Op.unary op (a.eval x)) (by simp only[execOp,ho]) ?_ (by rw[←h2];exact hu)
   rw[hv,e]
   rfl
 · cases hs
theorem bin_bool {op:BinOp} {t:TypeId} {x y:Operand} {b1 b2:Bool} (hop:op=.eql∨op=.neq) (hT:TabOk P T) (hd:(T.at_ t).d=.scalar) (ht:(T.at_ t).t=some .bool) :
 (do eqGuard op t x y (.bool b1) (.bool b2);binOp op t (.bool b1) (.bool b2):Sem Value).run P w=.ok (.bool (if op matches .eql then b1==b2 else !(b1==b2))) w:=by
 have h:=(hT t (by rw[hd];simp)).desc
 unfold DescOk at h
 rw[hd] at h
 obtain⟨d,h1,_,_,h3,_⟩:=h
 have h3:=h3 ht
 subst h3
 have he:(Op.equal t (.bool b1) (.bool b2)).run P w=.ok (b1==b2) w:=by
  have e:Op.equal t (.bool b1) (.bool b2)=Op.equalIn (9999+1) t (.bool b1) (.bool b2):=rfl
  rw[e]
  unfold Op.equalIn
  rw[Sem.run_bind,run_underlying h1]
  rfl
 rcases hop with rfl | rfl
 · simp only[eqGuard,binOp]
   simp[he]
 · simp only[eqGuard,binOp]
   simp[he]
theorem agg_eq (hT:TabOk P T) {t:TypeId} {c1 c2:AV} {b:Bool} {u v:Value} (h:eqAgg T t c1 c2=some b) (h1:VL S w β H (.agg c1) [u]) (h2:VL S w β H (.agg c2) [v]) :
 ∃xs ys,u=.agg xs∧v=.agg ys∧P.eqGuardType P.depth t=false∧(Op.equalIn 10000 t (.agg xs) (.agg ys)).run P w=.ok b w:=by
 unfold eqAgg at h
 split at h
 · rename_i hc
   obtain⟨k1,k2,k3,k4⟩:=hc
   obtain⟨cs,e1,g1⟩:=h1
   obtain⟨ds,e2,g2⟩:=h2
   cases e1
   cases e2
   have hd:(T.at_ t).d≠.unk:=by intro hd;rw[hd] at k2;cases k2
   obtain⟨q1,q2⟩:=(hT t hd).eq k1
   have sh:∀(c:AV) (cs:List Value),c.chain=true→VL S w β H c cs→Shape T S w β H t c.toList (.agg cs.toArray):=by
    intro c cs hc hv
    have:=VL.list_of c cs hc hv
    unfold Shape
    cases hdd:(T.at_ t).d with
    | struct fs=>exact⟨cs.toArray,rfl,by simpa using this⟩
    | array n e=>exact⟨cs.toArray,rfl,by simpa using this⟩
    | _=>rw[hdd] at k2;cases k2
   exact⟨cs.toArray,ds.toArray,rfl,rfl,q2,eqA_sound hT 12 12 t _ _ _ _ b 9988 h q1 (sh c1 cs k3 g1) (sh c2 ds k4 g2)⟩
 · cases h
theorem nil_of (hr:Rel M S0 w0 S β H w) {x:AV} {u:Value} {b:Bool} (hv:VL S w β H x [u]) (h:isNil H x=some b):∃ao n c,u=.slice ao n c∧ao.isNone=b:=by
 unfold isNil at h
 split at h
 · cases h;obtain⟨v,e,hl⟩:=hv;cases e;exact⟨_,_,_,hl,rfl⟩
 · cases h;obtain⟨v,e,hl⟩:=hv;cases e;exact⟨_,_,_,hl,rfl⟩
 · cases h;obtain⟨v,e,hl⟩:=hv;cases e;obtain⟨ad,c,rfl⟩:=hl;exact⟨_,_,_,rfl,rfl⟩
 · cases h
   obtain⟨v,e,hl⟩:=hv
   cases e
   obtain⟨ao,n,c,es,e1,e2,e3,_,_,e4⟩:=hl
   cases e1
   refine⟨_,_,_,rfl,?_⟩
   cases ao with
   | some ad=>rfl
   | none=>have:=e4 rfl;simp at e2;omega
 · rename_i k
   split at h
   · rename_i e t y ys hk
     cases h
     obtain⟨v,e1,hl⟩:=hv
     cases e1
     simp only[leaf,hk] at hl
     have hob:=hr.ob k
     rw[hk] at hob
     rcases hob with ⟨_,e3⟩ | ⟨g,cur,e2,_⟩
     · cases e3
     · exact⟨some ⟨g,0,none⟩,_,_,by rw[hl];unfold rowV;rw[e2],rfl⟩
   · cases h
 · cases h
theorem bin_nil {op:BinOp} {t e:TypeId} {x y:Operand} {ao:Option Addr} {n c':Nat} (hop:op=.eql∨op=.neq) (hT:TabOk P T) (hd:(T.at_ t).d=.slice e) :
 (do eqGuard op t x y (.slice ao n c') (.slice none 0 0);binOp op t (.slice ao n c') (.slice none 0 0):Sem Value).run P w=.ok (.bool (if op matches .eql then ao.isNone else !ao.isNone)) w:=by
 have h:=(hT t (by rw[hd];simp)).desc
 unfold DescOk at h
 rw[hd] at h
 have he:(Op.equal t (.slice ao n c') (.slice none 0 0)).run P w=.ok ao.isNone w:=by
  have e:Op.equal t (.slice ao n c') (.slice none 0 0)=Op.equalIn (9999+1) t (.slice ao n c') (.slice none 0 0):=rfl
  rw[e]
  unfold Op.equalIn
  rw[Sem.run_bind,run_underlying h]
  cases ao<;>rfl
 rcases hop with rfl | rfl
 · simp only[eqGuard,binOp]
   simp[he]
 · simp only[eqGuard,binOp]
   simp[he]
theorem ptrNil_of {xa:AV} {u:Value} {b:Bool} (hv:VL S w β H xa [u]) (h:ptrNil xa=some b):∃ao:Option Addr,u=.pointer ao∧ao.isNone=b:=by
 unfold ptrNil at h
 split at h
 · cases h;obtain⟨v,e,hl⟩:=hv;cases e;exact⟨none,hl,rfl⟩
 · rename_i k off
   cases h
   obtain⟨v,e,hl⟩:=hv
   cases e
   simp only[leaf] at hl
   split at hl
   · obtain⟨g,_,rfl⟩:=hl;exact⟨_,rfl,rfl⟩
   · obtain⟨ad,rfl⟩:=hl;exact⟨_,rfl,rfl⟩
   · exact hl.elim
 · cases h
   obtain⟨v,e,hl⟩:=hv
   cases e
   simp only[leaf] at hl
   split at hl
   · obtain⟨g,_,_,_,rfl⟩:=hl;exact⟨_,rfl,rfl⟩
   · obtain⟨g,_,_,_,rfl⟩:=hl;exact⟨_,rfl,rfl⟩
   · obtain⟨g,_,_,_,rfl⟩:=hl;exact⟨_,rfl,rfl⟩
   · obtain⟨ad,rfl⟩:=hl;exact⟨_,rfl,rfl⟩
   · exact hl.elim
 · cases h
   obtain⟨v,e,hl⟩:=hv
   cases e
   obtain⟨_,_,ad,es,_,_,rfl⟩:=hl
   exact⟨_,rfl,rfl⟩
 · cases h
   obtain⟨v,e,hl⟩:=hv
   cases e
   simp only[leaf] at hl
   split at hl
   · obtain⟨g,_,_,rfl⟩:=hl;exact⟨_,rfl,rfl⟩
   · obtain⟨ad,rfl⟩:=hl;exact⟨_,rfl,rfl⟩
   · exact hl.elim
 · cases h
theorem bin_ptr {op:BinOp} {t:TypeId} {x y:Operand} {ao:Option Addr} (hop:op=.eql∨op=.neq) (hT:TabOk P T) (hd:(T.at_ t).d=.scalar) (hz:(T.at_ t).zero=[.nilp]) :
 (do eqGuard op t x y (.pointer ao) (.pointer none);binOp op t (.pointer ao) (.pointer none):Sem Value).run P w=.ok (.bool (if op matches .eql then ao.isNone else !ao.isNone)) w:=by
 have h:=(hT t (by rw[hd];simp)).desc
 unfold DescOk at h
 rw[hd] at h
 obtain⟨d,h1,_,_,_,_,h2⟩:=h
 obtain⟨e0,rfl⟩:=h2 hz
 have he:(Op.equal t (.pointer ao) (.pointer none)).run P w=.ok ao.isNone w:=by
  have e:Op.equal t (.pointer ao) (.pointer none)=Op.equalIn (9999+1) t (.pointer ao) (.pointer none):=rfl
  rw[e]
  unfold Op.equalIn
  rw[Sem.run_bind,run_underlying h1]
  cases ao<;>rfl
 rcases hop with rfl | rfl
 · simp only[eqGuard,binOp]
   simp[he]
 · simp only[eqGuard,binOp]
   simp[he]
theorem s_bin {op:BinOp} {t t':TypeId} {x y:Operand} (ho:o.op=.binOp op t x y t') (c:Cx P T M S0 w0 S β H w a ev nid r) (hs:semOp T env ev H nid o=some r):Goes P M S0 w0 S β H w o a r:=by
 simp only[semOp,ho,semBin] at hs
 split at hs
 · rename_i b1 b2 e1 e2
   split at hs
   · rename_i hd ht
     simp only[ok,Option.some.injEq] at hs
     subst hs
     have h1:=c.hev x
     have h2:=c.hev y
     rw[e1] at h1
     rw[e2] at h2
     refine goes_same (u:=.bool (b1==b2)) c rfl (s:=do eqGuard .eql t x y (a.eval x) (a.eval y);binOp .eql t (a.eval x) (a.eval y)) (by simp only[execOp,ho]) ?_ ⟨_,rfl,rfl⟩
     rw[VL.bool h1,VL.bool h2]
     exact bin_bool (.inl rfl) c.hT hd ht
   · cases hs
 · rename_i b1 b2 e1 e2
   split at hs
   · rename_i hd ht
     simp only[ok,Option.some.injEq] at hs
     subst hs
     have h1:=c.hev x
     have h2:=c.hev y
     rw[e1] at h1
     rw[e2] at h2
     refine goes_same (u:=.bool (!(b1==b2))) c rfl (s:=do eqGuard .neq t x y (a.eval x) (a.eval y);binOp .neq t (a.eval x) (a.eval y)) (by simp only[execOp,ho]) ?_ ⟨_,rfl,rfl⟩
     rw[VL.bool h1,VL.bool h2]
     exact bin_bool (.inr rfl) c.hT hd ht
   · cases hs
 · rename_i e2
   split at hs
   rotate_left
   · cases hs
   rename_i e hd
   obtain⟨b,h1,h2⟩:=Option.bind_eq_some_iff.1 hs
   simp only[ok,Option.some.injEq] at h2
   subst h2
   have g2:=c.hev y
   rw[e2] at g2
   obtain⟨ao,n,cc,q1,q2⟩:=nil_of c.rel (c.hev x) h1
   obtain⟨v2,e3,e4⟩:=g2
   simp only[List.cons.injEq,and_true] at e3
   have e4:v2=.slice none 0 0:=e4
   refine goes_same (u:=.bool b) c rfl (s:=do eqGuard .eql t x y (a.eval x) (a.eval y);binOp .eql t (a.eval x) (a.eval y)) (by simp only[execOp,ho]) ?_ ⟨_,rfl,rfl⟩
   rw[q1,e3,e4,←q2]
   exact bin_nil (.inl rfl) c.hT hd
 · rename_i e2
   split at hs
   rotate_left
   · cases hs
   rename_i e hd
   obtain⟨b,h1,h2⟩:=Option.bind_eq_some_iff.1 hs
   simp only[ok,Option.some.injEq] at h2
   subst h2
   have g2:=c.hev y
   rw[e2] at g2
   obtain⟨ao,n,cc,q1,q2⟩:=nil_of c.rel (c.hev x) h1
   obtain⟨v2,e3,e4⟩:=g2
   simp only[List.cons.injEq,and_true] at e3
   have e4:v2=.slice none 0 0:=e4
   refine goes_same (u:=.bool (!b)) c rfl (s:=do eqGuard .neq t x y (a.eval x) (a.eval y);binOp .neq t (a.eval x) (a.eval y)) (by simp only[execOp,ho]) ?_ ⟨_,rfl,rfl⟩
   rw[q1,e3,e4,←q2]
   exact bin_nil (.inr rfl) c.hT hd
 · rename_i e2
   split at hs
   rotate_left
   · cases hs
   rename_i hd hz
   obtain⟨b,h1,h2⟩:=Option.bind_eq_some_iff.1 hs
   simp only[ok,Option.some.injEq] at h2
   subst h2
   have g2:=c.hev y
   rw[e2] at g2
   obtain⟨ao,q1,q2⟩:=ptrNil_of (c.hev x) h1
   obtain⟨v2,e3,e4⟩:=g2
   simp only[List.cons.injEq,and_true] at e3
   have e4:v2=.pointer none:=e4
   refine goes_same (u:=.bool b) c rfl (s:=do eqGuard .eql t x y (a.eval x) (a.eval y);binOp .eql t (a.eval x) (a.eval y)) (by simp only[execOp,ho]) ?_ ⟨_,rfl,rfl⟩
   rw[q1,e3,e4,←q2]
   exact bin_ptr (.inl rfl) c.hT hd hz
 · rename_i e2
   split at hs
   rotate_left
   · cases hs
   rename_i hd hz
   obtain⟨b,h1,h2⟩:=Option.bind_eq_some_iff.1 hs
   simp only[ok,Option.some.injEq] at h2
   subst h2
   have g2:=c.hev y
   rw[e2] at g2
   obtain⟨ao,q1,q2⟩:=ptrNil_of (c.hev x) h1
   obtain⟨v2,e3,e4⟩:=g2
   simp only[List.cons.injEq,and_true] at e3
   have e4:v2=.pointer none:=e4
   refine goes_same (u:=.bool (!b)) c rfl (s:=do eqGuard .neq t x y (a.eval x) (a.eval y);binOp .neq t (a.eval x) (a.eval y)) (by simp only[execOp,ho]) ?_ ⟨_,rfl,rfl⟩
   rw[q1,e3,e4,←q2]
   exact bin_ptr (.inr rfl) c.hT hd hz
 · rename_i k1 n1 k2 n2 e1 e2
   split at hs
   rotate_left
   · cases hs
   rename_i hk
   subst hk
   simp only[okIf,Option.some.injEq] at hs
   have hg:=c.hgs (n2≠0) (by rw[←hs];simp)
   subst hs
   have g1:=c.hev x
   have g2:=c.hev y
   rw[e1] at g1
   rw[e2] at g2
   refine goes_same (u:=.int k1 (k1.wrap (n1.tdiv n2))) c rfl (s:=do eqGuard .quo t x y (a.eval x) (a.eval y);binOp .quo t (a.eval x) (a.eval y)) (by simp only[execOp,ho]) ?_ ⟨_,rfl,rfl⟩
   rw[VL.int g1,VL.int g2]
   simp[eqGuard,binOp,Op.intDiv,hg]
 · rename_i k1 n1 k2 n2 e1 e2
   split at hs
   rotate_left
   · cases hs
   rename_i hk
   subst hk
   simp only[okIf,Option.some.injEq] at hs
   have hg:=c.hgs (n2≠0) (by rw[←hs];simp)
   subst hs
   have g1:=c.hev x
   have g2:=c.hev y
   rw[e1] at g1
   rw[e2] at g2
   refine goes_same (u:=.int k1 (n1.tmod n2)) c rfl (s:=do eqGuard .rem t x y (a.eval x) (a.eval y);binOp .rem t (a.eval x) (a.eval y)) (by simp only[execOp,ho]) ?_ ⟨_,rfl,rfl⟩
   rw[VL.int g1,VL.int g2]
   simp[eqGuard,binOp,Op.intDiv,hg]
 · rename_i k1 n1 k2 n2 e1 e2
   simp only[okIf,Option.some.injEq] at hs
   have hg:=c.hgs (0≤n2) (by rw[←hs];simp)
   subst hs
   have g1:=c.hev x
   have g2:=c.hev y
   rw[e1] at g1
   rw[e2] at g2
   refine goes_same (u:=.int k1 (k1.wrap (n1*2 ^ (min n2.toNat k1.bits)))) c rfl (s:=do eqGuard .shl t x y (a.eval x) (a.eval y);binOp .shl t (a.eval x) (a.eval y)) (by simp only[execOp,ho]) ?_ ⟨_,rfl,rfl⟩
   rw[VL.int g1,VL.int g2]
   simp[eqGuard,binOp,Op.shift,Int.not_lt.2 hg]
 · rename_i k1 n1 k2 n2 e1 e2
   simp only[okIf,Option.some.injEq] at hs
   have hg:=c.hgs (0≤n2) (by rw[←hs];simp)
   subst hs
   have g1:=c.hev x
   have g2:=c.hev y
   rw[e1] at g1
   rw[e2] at g2
   refine goes_same (u:=.int k1 (n1.fdiv (2 ^ (min n2.toNat k1.bits)))) c rfl (s:=do eqGuard .shr t x y (a.eval x) (a.eval y);binOp .shr t (a.eval x) (a.eval y)) (by simp only[execOp,ho]) ?_ ⟨_,rfl,rfl⟩
   rw[VL.int g1,VL.int g2]
   simp[eqGuard,binOp,Op.shift,Int.not_lt.2 hg]
 · rename_i s1 s2 e1 e2
   simp only[okIf,Option.some.injEq] at hs
   have hg:=c.hgs (s1.size+s2.size≤9223372036854775807) (by rw[←hs];simp)
   subst hs
   have g1:=c.hev x
   have g2:=c.hev y
   rw[e1] at g1
   rw[e2] at g2
   obtain⟨v1,k1,k2⟩:=g1
   obtain⟨v2,k3,k4⟩:=g2
   simp only[List.cons.injEq,and_true] at k1 k3
   have k2:v1=.string s1:=k2
   have k4:v2=.string s2:=k4
   refine goes_same (u:=.string (s1++s2)) c rfl (s:=do eqGuard .add t x y (a.eval x) (a.eval y);binOp .add t (a.eval x) (a.eval y)) (by simp only[execOp,ho]) ?_ ⟨_,rfl,rfl⟩
   rw[k1,k3,k2,k4]
   have h:=run_string_add_sum (P:=P) (w:=w) s1 s2 hg
   simp only[eqGuard,binOp]
   simpa using h
 · rename_i c1 c2 e1 e2
   obtain⟨b,h1,h2⟩:=Option.bind_eq_some_iff.1 hs
   simp only[ok,Option.some.injEq] at h2
   subst h2
   have g1:=c.hev x
   have g2:=c.hev y
   rw[e1] at g1
   rw[e2] at g2
   obtain⟨xs,ys,q1,q2,q3,q4⟩:=agg_eq c.hT h1 g1 g2
   refine goes_same (u:=.bool b) c rfl (s:=do eqGuard .eql t x y (a.eval x) (a.eval y);binOp .eql t (a.eval x) (a.eval y)) (by simp only[execOp,ho]) ?_ ⟨_,rfl,rfl⟩
   rw[q1,q2,Sem.run_bind,run_eqGuard_agg w .eql t x y xs ys q3,Result.andThen_ok,run_eql_struct,q4,Result.andThen_ok]
 · rename_i c1 c2 e1 e2
   obtain⟨b,h1,h2⟩:=Option.bind_eq_some_iff.1 hs
   simp only[ok,Option.some.injEq] at h2
   subst h2
   have g1:=c.hev x
   have g2:=c.hev y
   rw[e1] at g1
   rw[e2] at g2
   obtain⟨xs,ys,q1,q2,q3,q4⟩:=agg_eq c.hT h1 g1 g2
   refine goes_same (u:=.bool (!b)) c rfl (s:=do eqGuard .neq t x y (a.eval x) (a.eval y);binOp .neq t (a.eval x) (a.eval y)) (by simp only[execOp,ho]) ?_ ⟨_,rfl,rfl⟩
   rw[q1,q2,Sem.run_bind,run_eqGuard_agg w .neq t x y xs ys q3,Result.andThen_ok,run_neq_struct,q4,Result.andThen_ok]
 · split at hs
   · rename_i vx vy hx hy
     obtain⟨z,h1,h2⟩:=Option.bind_eq_some_iff.1 hs
     simp only[ok,Option.some.injEq] at h2
     obtain⟨u,e,hu⟩:=ofSem_of (S:=S) (w:=w) (β:=β) (H:=H) h1
     have hvx:=toV_of (c.hev x) hx
     have hvy:=toV_of (c.hev y) hy
     refine goes_same (u:=u) c (by rw[←h2]) (s:=_) (by simp only[execOp,ho];rfl) ?_ (by rw[←h2];exact hu)
     have hg:∀q,eqGuard q t x y vx vy=pure ():=by
      intro q
      unfold toV at hx hy
      split at hx<;>cases hx<;>(split at hy<;>cases hy<;>(cases q<;>rfl))
     rw[hvx,hvy,hg,e]
     rfl
   · cases hs
theorem orow_at (h:Rel M S0 w0 S β H w) {k:Nat} {e:TypeId} {ty:Ty} {xs:List ty.den} {i:Int} {off:Nat} {v:Value} (hk:H k=.orow e ty xs) (hl:leaf S w β H (.rptr k i off) v) :
 ∃g cur c1 c2 c3 F1 F2 F3,(β k).g=some g∧0≤i∧i<(xs.length:Int)∧v=.pointer (some ⟨g,i.toNat*ty.size+off,none⟩)∧w.heap[g]? = some (.cells cur e (0,0))∧xs.length≤(β k).cap∧(β k).cap≤maxLen∧cur.size=(β k).cap*ty.size ∧
  cur.toList.take (xs.length*ty.size)=c1++c2++c3∧(β k).more=F1++F2++F3∧c1.length=i.toNat*ty.size∧c2.length=ty.size∧DRo S w ty (xs.getD i.toNat ty.zero) c2 F2∧(g::(F1++F2++F3)).Nodup ∧
  ∀(y:ty.den) (c2':List Value) (F2':List Nat) ,DRo S w ty y c2' F2'→CatO S w ty (xs.set i.toNat y) (c1++c2'++c3) (F1++F2'++F3):=by
 simp only[leaf,hk] at hl
 obtain⟨g,hg,h0,h1,hv⟩:=hl
 have hob:=h.ob k
 rw[hk] at hob
 rcases hob with ⟨e1,e2,_⟩ | ⟨g',cur,q1,q2,q3,q4,q5,q6,q7⟩
 · rw[hg] at e1;cases e1
 · rw[hg] at q1
   cases q1
   obtain⟨c1,c2,c3,F1,F2,F3,r1,r2,r3,r4,r5⟩:=CatO.split xs _ _ i.toNat (by omega) q6
   exact⟨g,cur,c1,c2,c3,F1,F2,F3,hg,h0,h1,by rw[hv,add_lit,Nat.zero_add],q2,q3,q4,q5,r1,r2,r3,DRo.length _ _ _ _ r4,r4,by rw[←r2];exact q7,r5⟩
theorem mid_get {c1 c2 c3:List Value} {cur:Array Value} {n m:Nat} (h:cur.toList.take n=c1++c2++c3) (hm:c1.length=m) {j:Nat} {u:Value} (hj:c2[j]? = some u):cur[m+j]? = some u:=by
 have h1:(c1++c2++c3)[m+j]? = some u:=by
  rw[List.append_assoc,List.getElem?_append_right (by omega),hm,Nat.add_sub_cancel_left,List.getElem?_append_left (List.getElem?_eq_some_iff.1 hj).1]
  exact hj
 rw[←h,List.getElem?_take] at h1
 split at h1
 · simpa using h1
 · cases h1
theorem isSl_of {d:TD} {e:TypeId} (h:d.isSl e=true):d=.slice e:=by
 cases d<;>simp[TD.isSl] at h
 rw[h]
theorem s_take {k:Nat} {i:Int} {off:Nat} {t:TypeId} {x:Operand} {e:TypeId} {ty:Ty} {xs:List ty.den} (ho:o.op=.load t x) (c:Cx P T M S0 w0 S β H w a ev nid r) (he:ev x=.rptr k i off) (hk:H k=.orow e ty xs) (hs:semTake T k nid t e ty xs i off=some r):Goes P M S0 w0 S β H w o a r:=by
 have hx:=c.hev x
 rw[he] at hx
 obtain⟨v0,ev0,hl⟩:=hx
 simp only[List.cons.injEq,and_true] at ev0
 obtain⟨g,cur,c1,c2,c3,F1,F2,F3,hg,h0,h1,hv,heap,q3,q4,q5,r1,r2,r3,r4,r5,r6,r7⟩:=orow_at c.rel hk hl
 unfold semTake at hs
 split at hs
 rotate_left
 · cases hs
 rename_i e' t' ys hget
 split at hs
 rotate_left
 · cases hs
 rename_i x' hput
 split at hs
 rotate_left
 · cases hs
 rename_i hcond
 obtain⟨hsl,hnol⟩:=hcond
 have hsl:=isSl_of hsl
 simp only[Option.some.injEq] at hs
 subst hs
 obtain⟨u,A1,A2,A3,s1,s2,s3,s4,s5⟩:=ol_of ty _ c2 F2 off e' t' ys r5 hget
 have hrow:=r7 x' _ _ (s5 [] (.slice none 0 0) [] x' (.inl ⟨rfl,rfl,rfl⟩) hput)
 have hn:=c.fresh (by simp)
 have hkl:(H k).live=true:=by rw[hk];rfl
 have hne:k≠nid:=by intro q;rw[q,hn] at hkl;cases hkl
 obtain⟨cr,hcr1,hcr2,hcr3⟩:∃cr:Cr,u=rowV cr ys.length∧(∀b,cr.has b↔b∈A2)∧∀(S':Nat→Prop) (w':World) β' H',(∀b,S b→S' b∧w'.heap[b]? = w.heap[b]?)→(∀b∈A2,w'.heap[b]? = w.heap[b]?)→ObR S' w' β' H' cr (.row e' t' ys):=by
  rcases s4 with ⟨p1,p2,p3⟩ | ⟨gb,cap,cb,p1,p2,p3,p4,p5,p6,p7⟩
  · refine⟨⟨none,0,[]⟩,?_,fun b => ?_,fun S' w' β' H' hS _=>.inl ⟨rfl,p2⟩⟩
    · simpa [rowV] using p1
    · rw[p3];exact⟨fun hh=>absurd hh has_nil,fun hh=>by cases hh⟩
  · refine⟨⟨some gb,cap,[]⟩,?_,fun b => ?_,fun S' w' β' H' hS hA=>.inr ⟨gb,cb,rfl,(hA gb (by rw[p2];simp)).trans p3,p4,p5,p6,Cat.dr_mono hS p7⟩⟩
    · simpa [rowV] using p1
    · rw[p2,has_one];simp
 have hsub:∀b,b∈F1++(A1++[]++A3)++F3→b∈(β k).more:=by
  intro b hb
  rw[r2,s3]
  simp only[List.mem_append,List.not_mem_nil,or_false] at hb ⊢
  rcases hb with (hb | hb | hb) | hb<;>simp[hb]
 have hA2:∀b,b∈A2→b∈(β k).more:=by
  intro b hb
  rw[r2,s3]
  simp[hb]
 have hnd:(g::(F1++(A1++[]++A3)++F3)).Nodup∧∀b∈A2,b≠g∧b∉F1++(A1++[]++A3)++F3:=by
  rw[s3] at r6
  simp only[List.nodup_cons,List.nodup_append,List.mem_append,List.append_nil,not_or] at r6 ⊢
  refine⟨?_,fun b hb=>⟨?_,?_⟩⟩
  · simp_all
    grind
  · intro q;subst q;simp_all
  · grind
 let β':Nat→Cr:=setC (setC β nid cr) k ⟨some g,(β k).cap,F1++(A1++[]++A3)++F3⟩
 have hbk:β' k=⟨some g,(β k).cap,F1++(A1++[]++A3)++F3⟩:=setC_one _ _ _
 have hbn:β' nid=cr:=by show setC (setC β nid cr) k _ nid=_;rw[setC_other _ _ _ _ (Ne.symm hne),setC_one]
 have hbo:∀j,j≠k→j≠nid→β' j=β j:=fun j h1 h2=>by show setC (setC β nid cr) k _ j=_;rw[setC_other _ _ _ _ h1,setC_other _ _ _ _ h2]
 have hHk:updH H [(k,.hrow e ty (xs.set i.toNat x') i off),(nid,.row e' t' ys)] k=.hrow e ty (xs.set i.toNat x') i off:=by simp[updH,List.lookup]
 have hHn:updH H [(k,.hrow e ty (xs.set i.toNat x') i off),(nid,.row e' t' ys)] nid=.row e' t' ys:=by
  have:(nid==k)=false:=by simpa using Ne.symm hne
  simp[updH,List.lookup,this]
 have hHo:∀j,j≠k→j≠nid→updH H [(k,.hrow e ty (xs.set i.toNat x') i off),(nid,.row e' t' ys)] j=H j:=by
  intro j h1 h2
  have e1:(j==k)=false:=by simpa using h1
  have e2:(j==nid)=false:=by simpa using h2
  simp[updH,List.lookup,e1,e2]
 have hask:∀b,(β' k).has b→(β k).has b:=by
  intro b hb
  rw[hbk] at hb
  rcases hb with hb | hb
  · exact .inl (by rw[hg];exact hb)
  · exact .inr (hsub b hb)
 have hasn:∀b,(β' nid).has b→b∈A2:=fun b hb=>by rw[hbn] at hb;exact (hcr2 b).1 hb
 intro next Q hnx
 obtain⟨z1,z2⟩:=Rel.step c.rel (β':=β') (H':=updH H [(k,.hrow e ty (xs.set i.toNat x') i off),(nid,.row e' t' ys)]) (w':=w) (fun _=>False) rfl rfl rfl (Nat.le_refl _) (fun b hb=>hb.elim) (fun _ _ _=>rfl)
  (fun j=>by
   by_cases h1:j=k
   · subst h1
     rw[hHk,hbk,hk]
     exact .inr ⟨hg.symm,rfl,_,.inr ⟨_,_,rfl⟩,by simp⟩
   · by_cases h2:j=nid
     · subst h2;rw[hn];trivial
     · rw[hHo j h1 h2,hbo j h1 h2];exact ObExt.refl _ _)
  (fun j b hl' hb=>by
   by_cases h1:j=k
   · subst h1;exact .inl ⟨j,hkl,hask b hb⟩
   · by_cases h2:j=nid
     · subst h2;exact .inl ⟨k,hkl,.inr (hA2 b (hasn b hb))⟩
     · rw[hHo j h1 h2] at hl';rw[hbo j h1 h2] at hb;exact .inl ⟨j,hl',hb⟩)
  (fun j j' b hl1 hl2 hb1 hb2=>by
   have cross:∀b,(β' k).has b→(β' nid).has b→False:=by
    intro b hb hb'
    have h2:=hasn b hb'
    rw[hbk] at hb
    rcases hb with hb | hb
    · exact (hnd.2 b h2).1 (Option.some.inj hb).symm
    · exact (hnd.2 b h2).2 hb
   have far:∀j b,j≠k→j≠nid→(H j).live=true→(β j).has b→(β k).has b→False:=fun j b h1 _ hl hb hb'=>h1 (c.rel.dis j k b hl hkl hb hb')
   by_cases h1:j=k
   · by_cases h1':j'=k
     · rw[h1,h1']
     · by_cases h2':j'=nid
       · subst h1;subst h2';exact (cross b hb1 hb2).elim
       · rw[hHo j' h1' h2'] at hl2;rw[hbo j' h1' h2'] at hb2;subst h1;exact (far j' b h1' h2' hl2 hb2 (hask b hb1)).elim
   · by_cases h2:j=nid
     · by_cases h1':j'=k
       · subst h1';subst h2;exact (cross b hb2 hb1).elim
       · by_cases h2':j'=nid
         · rw[h2,h2']
         · rw[hHo j' h1' h2'] at hl2;rw[hbo j' h1' h2'] at hb2;subst h2;exact (far j' b h1' h2' hl2 hb2 (.inr (hA2 b (hasn b hb1)))).elim
     · rw[hHo j h1 h2] at hl1;rw[hbo j h1 h2] at hb1
       by_cases h1':j'=k
       · subst h1';exact (far j b h1 h2 hl1 hb1 (hask b hb2)).elim
       · by_cases h2':j'=nid
         · subst h2';exact (far j b h1 h2 hl1 hb1 (.inr (hA2 b (hasn b hb2)))).elim
         · rw[hHo j' h1' h2'] at hl2;rw[hbo j' h1' h2'] at hb2;exact c.rel.dis j j' b hl1 hl2 hb1 hb2)
  (fun hx j hl'=>by
   by_cases h1:j=k
   · subst h1
     right
     rw[hHk,hbk]
     refine⟨g,cur,rfl,heap,by simpa using q3,q4,q5,h0,by simpa using h1,s2,?_,hnd.1⟩
     have:(cur.toList.take ((xs.set i.toNat x').length*ty.size)).set (i.toNat*ty.size+off) (.slice none 0 0)=c1++c2.set off (.slice none 0 0)++c3:=by
      rw[List.length_set,r1,List.append_assoc,List.append_assoc,List.set_append_right _ _ (by omega),r3,Nat.add_sub_cancel_left,List.set_append_left _ _ (by omega)]
     rw[this]
     exact CatO.mono hx.hS _ _ _ (fun _ _=>rfl) hrow
   · by_cases h2:j=nid
     · subst h2
       right
       rw[hHn,hbn]
       exact hcr3 S w _ _ hx.hS fun _ _=>rfl
     · left
       exact⟨hHo j h1 h2,hbo j h1 h2,fun _ _ h=>h⟩)
 have hcell:w.cell? ⟨g,i.toNat*ty.size+off,none⟩=some u:=by
  rw[cell_of_row w g _ _ _ _ heap]
  exact mid_get r1 r3 s1
 refine wp_val (s:=Instr.loadAt t (a.eval x)) (by simp only[execOp,ho]) (v:=u) (w':=w) ?_ (hnx u w S β' z1 ?_ z2)
 · rw[ev0,hv]
   simp only[Instr.loadAt,Instr.sureAddr,Sem.run_bind,Sem.run_pure,Result.andThen_ok,loadVar,run_isAgg_no c.hT (.inr (.inl ⟨_,hsl⟩)) w,Bool.false_eq_true,if_false,run_load,hcell]
 · refine⟨_,rfl,?_⟩
   simp only[leaf,hHn,hbn]
   exact hcr1
theorem s_load {t:TypeId} {x:Operand} (ho:o.op=.load t x) (c:Cx P T M S0 w0 S β H w a ev nid r) (hs:semOp T env ev H nid o=some r):Goes P M S0 w0 S β H w o a r:=by
 simp only[semOp,ho] at hs
 have hx:=c.hev x
 have key:∀(ad:Addr) (l:List AV) (cs:List Value) (v:AV),a.eval x=.pointer (some ad)→VLs S w β H l cs→aggOf (T.at_ t) l=some v→(∀j u,cs[j]? = some u→w.cell? (ad.add j)=some u)→r=⟨[],v,[]⟩→Goes P M S0 w0 S β H w o a r:=by
  intro ad l cs v e1 h1 h2 h3 e2
  obtain⟨u,hu,hv⟩:=load_of c.hT h1 h2 h3
  subst e2
  refine goes_same (u:=u) c rfl (s:=Instr.loadAt t (a.eval x)) (by simp only[execOp,ho]) ?_ hv
  rw[e1]
  simp only[Instr.loadAt,Instr.sureAddr,Sem.run_bind,Sem.run_pure,Result.andThen_ok,hu]
 split at hs
 · rename_i k off e
   rw[e] at hx
   obtain⟨u,e1,hl⟩:=hx
   simp only[leaf] at hl
   split at hs
   · rename_i el cs hk
     rw[hk] at hl
     obtain⟨g,hg,hv⟩:=hl
     obtain⟨v,h1,h2⟩:=Option.bind_eq_some_iff.1 hs
     simp only[ok,Option.some.injEq] at h2
     have hob:=c.rel.ob k
     rw[hk] at hob
     obtain⟨g',vs,eg,eh,hvs⟩:=hob
     rw[hg] at eg
     cases eg
     cases e1
     refine key ⟨g,off,none⟩ _ ((vs.drop off).take (T.at_ t).size) v hv (VLs.take _ _ _ (VLs.drop _ _ _ hvs)) h1 ?_ h2.symm
     intro j u hj
     rw[add_lit,cell_of_row w g (off+j) _ _ _ eh]
     rw[List.getElem?_take] at hj
     split at hj
     · simpa using hj
     · cases hj
   · cases hs
 · rename_i k i off e
   rw[e] at hx
   obtain⟨u,e1,hl⟩:=hx
   simp only[leaf] at hl
   split at hs
   · rename_i el ty xs hk
     rw[hk] at hl
     obtain⟨g,hg,h0,hi,hv⟩:=hl
     obtain⟨v,h1,h2⟩:=Option.bind_eq_some_iff.1 hs
     simp only[ok,Option.some.injEq] at h2
     have hob:=c.rel.ob k
     rw[hk] at hob
     cases e1
     rcases hob with ⟨eg,exs⟩ | ⟨g',cur,eg,eh,hn,hm,hsz,hcat⟩
     · rw[hg] at eg;cases eg
     · rw[hg] at eg
       cases eg
       have hget:xs[i.toNat]? = some (xs.getD i.toNat ty.zero):=by
        simp only[List.getD]
        rw[List.getElem?_eq_getElem (by omega)]
        rfl
       obtain⟨es,he,hcs⟩:=Cat.get (DR.length ty) xs _ i.toNat _ hcat hget
       have hve:=enc_of (β:=β) (H:=H) ty _ es he
       refine key _ _ ((es.drop off).take (T.at_ t).size) v hv (VLs.take _ _ _ (VLs.drop _ _ _ hve)) h1 ?_ h2.symm
       intro j u hj
       rw[add_add,add_lit,cell_of_row w g _ _ _ _ eh]
       rw[List.getElem?_take] at hj
       split at hj
       · have hj':=hcs (off+j) u (by simpa using hj)
         rw[List.getElem?_take] at hj'
         split at hj'
         · rw[show 0+(i.toNat*ty.size+off+j)=i.toNat*ty.size+(off+j) by omega]
           simpa using hj'
         · cases hj'
       · cases hj
   · rename_i el ty xs hk
     cases ht:env.takes.contains (o.dst.getD 0)
     · rw[ht] at hs
       simp only[cond_false] at hs
       obtain⟨v,h1,h2⟩:=Option.bind_eq_some_iff.1 hs
       simp only[ok,Option.some.injEq] at h2
       cases e1
       obtain⟨g,cur,c1,c2,c3,F1,F2,F3,hg,h0,hi,hv,heap,q3,q4,q5,r1,r2,r3,r4,r5,r6,r7⟩:=orow_at c.rel (i:=i) (off:=off) hk (by simp only[leaf];exact hl)
       have hve:=enc_ofO (β:=β) (H:=H) ty _ c2 F2 r5
       refine key _ _ ((c2.drop off).take (T.at_ t).size) v hv (VLs.take _ _ _ (VLs.drop _ _ _ hve)) h1 ?_ h2.symm
       intro j u hj
       rw[add_lit,cell_of_row w g _ _ _ _ heap]
       rw[List.getElem?_take] at hj
       split at hj
       · rw[Nat.add_assoc]
         exact mid_get r1 r3 (by simpa using hj)
       · cases hj
     · rw[ht] at hs
       exact s_take ho c e hk hs
   · cases hs
 · rename_i el ty xs i off e
   rw[e] at hx
   obtain⟨u,e1,hl⟩:=hx
   obtain⟨h0,hi,ad,es,hcat,hrd,hv⟩:=hl
   obtain⟨v,h1,h2⟩:=Option.bind_eq_some_iff.1 hs
   simp only[ok,Option.some.injEq] at h2
   cases e1
   have hget:xs[i.toNat]? = some (xs.getD i.toNat ty.zero):=by
    simp only[List.getD]
    rw[List.getElem?_eq_getElem (by omega)]
    rfl
   obtain⟨fs,he,hcs⟩:=Cat.get (DR.length ty) xs _ i.toNat _ hcat hget
   have hve:=enc_of (β:=β) (H:=H) ty _ fs he
   refine key _ _ ((fs.drop off).take (T.at_ t).size) v hv (VLs.take _ _ _ (VLs.drop _ _ _ hve)) h1 ?_ h2.symm
   intro j u hj
   rw[List.getElem?_take] at hj
   split at hj
   · have hj':=hcs (off+j) u (by simpa using hj)
     obtain⟨ad',e2,_,hc⟩:=hrd _ _ hj'
     cases e2
     rw[add_add,show i.toNat*ty.size+off+j=i.toNat*ty.size+(off+j) by omega]
     exact hc
   · cases hj
 · rename_i k i e
   rw[e] at hx
   obtain⟨u,e1,hl⟩:=hx
   simp only[leaf] at hl
   split at hs
   · rename_i el cs hk
     rw[hk] at hl
     obtain⟨g,hg,hi,hv⟩:=hl
     obtain⟨v,h1,h2⟩:=Option.bind_eq_some_iff.1 hs
     simp only[ok,Option.some.injEq] at h2
     have hob:=c.rel.ob k
     rw[hk] at hob
     cases e1
     rcases hob with ⟨eg,_⟩ | ⟨g',cur,eg,eh,hn,hm,hsz,hvs⟩
     · rw[hg] at eg;cases eg
     · rw[hg] at eg
       cases eg
       refine key ⟨g,i,none⟩ _ (((cur.toList.take cs.length).drop i).take (T.at_ t).size) v hv (VLs.take _ _ _ (VLs.drop _ _ _ hvs)) h1 ?_ h2.symm
       intro j u hj
       rw[add_lit,cell_of_row w g (i+j) _ _ _ eh]
       rw[List.getElem?_take] at hj
       split at hj
       · rw[List.getElem?_drop,List.getElem?_take] at hj
         split at hj
         · simpa using hj
         · cases hj
       · cases hj
   · cases hs
 · cases hs
end
end Go.Proofs.YtkpjcmiijlpcaaaDoor.Aw
