/- An abstract program logic over the model, seventh part: addresses, parts, new variables, s. -/
import Derived.Test.YtkpjcmiijlpcaaaDoorAwF
import Derived.Laws.CopyRow
namespace Go.Proofs.YtkpjcmiijlpcaaaDoor.Aw
open Go
section
variable {P:Program} {T:Tab} {env:Env} {M S0:Nat→Prop} {w0:World} {S:Nat→Prop} {β:Nat→Cr} {H:Nat→Ob} {w:World} {o:Oper} {a:Act} {ev:Operand→AV} {nid:Nat} {r:Res}
theorem VL.agg {x:AV} {u:Value} (h:VL S w β H (.agg x) [u]):∃cs,u=.agg cs.toArray∧VL S w β H x cs:=by
 obtain⟨cs,e,h1⟩:=h
 cases e
 exact⟨cs,rfl,h1⟩
theorem run_field {s:TypeId} {fs:List (Nat×TypeId)} {f:Nat} {off:Nat} {t:TypeId} (hT:TabOk P T) (hd:(T.at_ s).d=.struct fs) (hf:fs[f]? = some (off,t)) :
 ∃(fields:Array Field) (fl:Field),P.underlying s=some (.struct fields)∧fields[f]? = some fl∧fl.offset=off∧fl.type=t:=by
 have h:=(hT s (by rw[hd];simp)).desc
 unfold DescOk at h
 rw[hd] at h
 obtain⟨fields,h1,h2,_⟩:=h
 have h3:(fields.toList.map (fun f=>(f.offset,f.type)))[f]? = some (off,t):=by rw[h2];exact hf
 rw[List.getElem?_map] at h3
 obtain⟨fl,h4,h5⟩:=Option.map_eq_some_iff.1 h3
 simp only[Prod.mk.injEq] at h5
 exact⟨fields,fl,h1,by simpa using h4,h5.1,h5.2⟩
theorem partOf_struct {i:TI} {fs:List (Nat×TypeId)} {f off n:Nat} (hd:i.d=.struct fs) (h:partOf T i f=some (off,n)):∃t,fs[f]? = some (off,t)∧(T.at_ t).size=n∧(T.at_ t).d≠.unk:=by
 unfold partOf at h
 rw[hd] at h
 simp only at h
 split at h
 · rename_i o t hf
   split at h
   · cases h
   · rename_i hk
     cases h
     exact⟨t,hf,rfl,fun e=>hk e⟩
 · cases h
theorem s_fieldAddr {s:TypeId} {x:Operand} {f:Nat} (ho:o.op=.fieldAddr s x f) (c:Cx P T M S0 w0 S β H w a ev nid r) (hs:semOp T env ev H nid o=some r):Goes P M S0 w0 S β H w o a r:=by
 simp only[semOp,ho] at hs
 have hx:=c.hev x
 split at hs
 · rename_i fs hd
   have key:∀(off n:Nat) (v:AV) (ad:Addr),partOf T (T.at_ s) f=some (off,n)→0<n→a.eval x=.pointer (some ad)→VL S w β H v [.pointer (some (ad.add off))]→r=⟨[],v,[]⟩→Goes P M S0 w0 S β H w o a r:=by
    intro off n v ad hp hn e1 hv e2
    obtain⟨t,h1,h2,h3⟩:=partOf_struct hd hp
    obtain⟨fields,fl,g1,g2,g3,g4⟩:=run_field c.hT hd h1
    subst e2
    refine goes_same (u:=.pointer (some (ad.add off))) c rfl (s:=Instr.fieldAt s (a.eval x) f) (by simp only[execOp,ho]) ?_ hv
    have hsz:=run_sizeOf c.hT h3 w
    rw[e1]
    simp only[Instr.fieldAt,Instr.sureAddr,Sem.run_bind,run_underlying g1,Result.andThen_ok,g2,Sem.run_pure,fieldPlace,g4,hsz,g3]
    rw[if_neg (by omega)]
    rfl
   split at hs
   · rename_i o' n k off hp e
     split at hs
     · rename_i hn
       rw[e] at hx
       obtain⟨u,e1,hl⟩:=hx
       cases e1
       simp only[leaf] at hl
       simp only[ok,Option.some.injEq] at hs
       split at hl
       · rename_i hk
         obtain⟨g,hg,hv⟩:=hl
         refine key o' n (.ptr k (off+o')) _ hp hn hv ⟨_,rfl,?_⟩ hs.symm
         simp only[leaf]
         rw[hk]
         exact⟨g,hg,by rw[add_lit]⟩
       · rename_i hk
         obtain⟨ad,hv⟩:=hl
         refine key o' n (.ptr k (off+o')) _ hp hn hv ⟨_,rfl,?_⟩ hs.symm
         simp only[leaf]
         rw[hk]
         exact⟨_,rfl⟩
       · exact hl.elim
     · cases hs
   · rename_i o' n k i off hp e
     split at hs
     · rename_i hn
       rw[e] at hx
       obtain⟨u,e1,hl⟩:=hx
       cases e1
       simp only[leaf] at hl
       simp only[ok,Option.some.injEq] at hs
       split at hl
       · rename_i hk
         obtain⟨g,hg,h0,h1,hv⟩:=hl
         refine key o' n (.rptr k i (off+o')) _ hp hn hv ⟨_,rfl,?_⟩ hs.symm
         simp only[leaf]
         rw[hk]
         exact⟨g,hg,h0,h1,by rw[add_add,Nat.add_assoc]⟩
       · rename_i hk
         obtain⟨g,hg,h0,h1,hv⟩:=hl
         refine key o' n (.rptr k i (off+o')) _ hp hn hv ⟨_,rfl,?_⟩ hs.symm
         simp only[leaf]
         rw[hk]
         exact⟨g,hg,h0,h1,by rw[add_add,Nat.add_assoc]⟩
       · rename_i hk
         obtain⟨g,hg,h0,h1,hv⟩:=hl
         refine key o' n (.rptr k i (off+o')) _ hp hn hv ⟨_,rfl,?_⟩ hs.symm
         simp only[leaf]
         rw[hk]
         exact⟨g,hg,h0,h1,by rw[add_add,Nat.add_assoc]⟩
       · rename_i hk
         obtain⟨ad,hv⟩:=hl
         refine key o' n (.rptr k i (off+o')) _ hp hn hv ⟨_,rfl,?_⟩ hs.symm
         simp only[leaf]
         rw[hk]
         exact⟨_,rfl⟩
       · exact hl.elim
     · cases hs
   · rename_i o' n e' t' xs i off hp e
     split at hs
     · rename_i hn
       simp only[ok,Option.some.injEq] at hs
       rw[e] at hx
       obtain⟨u,e1,hl⟩:=hx
       cases e1
       obtain⟨h0,hi,ad,es,hcat,hrd,hv⟩:=hl
       exact key o' n (.lptr e' t' xs i (off+o')) _ hp hn hv ⟨_,rfl,h0,hi,ad,es,hcat,hrd,by rw[add_add,Nat.add_assoc]⟩ hs.symm
     · cases hs
   · cases hs
 · cases hs
theorem s_nilCheck {x:Operand} (ho:o.op=.nilCheck x) (c:Cx P T M S0 w0 S β H w a ev nid r) (hs:semOp T env ev H nid o=some r):Goes P M S0 w0 S β H w o a r:=by
 simp only[semOp,ho] at hs
 have hx:=c.hev x
 have key:∀(v:AV) (ad:Addr),a.eval x=.pointer (some ad)→VL S w β H v [.pointer (some ad)]→r=⟨[],v,[]⟩→Goes P M S0 w0 S β H w o a r:=by
  intro v ad e1 hv e2
  subst e2
  refine goes_same (u:=.pointer (some ad)) c rfl (s:=pure (.pointer (some ad))) ?_ rfl hv
  simp only[execOp,ho,e1]
  rfl
 split at hs
 · rename_i k off e
   simp only[ok,Option.some.injEq] at hs
   rw[e] at hx
   have hx':=hx
   obtain⟨u,e1,hl⟩:=hx
   cases e1
   simp only[leaf] at hl
   split at hl
   · obtain⟨g,hg,hv⟩:=hl
     rw[hv] at hx'
     exact key _ _ hv hx' hs.symm
   · obtain⟨ad,hv⟩:=hl
     rw[hv] at hx'
     exact key _ _ hv hx' hs.symm
   · exact hl.elim
 · rename_i k i off e
   simp only[ok,Option.some.injEq] at hs
   rw[e] at hx
   have hx':=hx
   obtain⟨u,e1,hl⟩:=hx
   cases e1
   simp only[leaf] at hl
   split at hl
   · obtain⟨g,hg,_,_,hv⟩:=hl
     rw[hv] at hx'
     exact key _ _ hv hx' hs.symm
   · obtain⟨g,hg,_,_,hv⟩:=hl
     rw[hv] at hx'
     exact key _ _ hv hx' hs.symm
   · obtain⟨g,hg,_,_,hv⟩:=hl
     rw[hv] at hx'
     exact key _ _ hv hx' hs.symm
   · obtain⟨ad,hv⟩:=hl
     rw[hv] at hx'
     exact key _ _ hv hx' hs.symm
   · exact hl.elim
 · rename_i el ty xs i off e
   simp only[ok,Option.some.injEq] at hs
   rw[e] at hx
   have hx':=hx
   obtain⟨u,e1,hl⟩:=hx
   cases e1
   obtain⟨_,_,ad,es,_,_,hv⟩:=hl
   rw[hv] at hx'
   exact key _ _ hv hx' hs.symm
 · cases hs
theorem s_field {s:TypeId} {x:Operand} {f:Nat} (ho:o.op=.field s x f) (c:Cx P T M S0 w0 S β H w a ev nid r) (hs:semOp T env ev H nid o=some r):Goes P M S0 w0 S β H w o a r:=by
 simp only[semOp,ho] at hs
 have hx:=c.hev x
 split at hs
 · rename_i fs hd
   split at hs
   · rename_i o' n off t cc hp hf e
     split at hs
     · rename_i hc
       obtain⟨v,h1,h2⟩:=Option.bind_eq_some_iff.1 hs
       simp only[ok,Option.some.injEq] at h2
       obtain⟨t',g0,g1,g2⟩:=partOf_struct hd hp
       rw[hf] at g0
       cases g0
       obtain⟨fields,fl,k1,k2,k3,k4⟩:=run_field c.hT hd hf
       rw[e] at hx
       obtain⟨cs,e1,hcs⟩:=VL.agg hx
       have hv:=VL.list_of cc cs hc.1 hcs
       rw[←g1] at h1
       obtain⟨u,hu,hvu⟩:=part_of c.hT (cs:=cs.toArray) (by simpa using hv) h1
       subst h2
       refine goes_same (u:=u) c rfl (s:=Instr.field s (a.eval x) f) (by simp only[execOp,ho]) ?_ hvu
       rw[e1]
       simp only[Instr.field,Sem.run_bind,run_underlying k1,Result.andThen_ok,k2,k3,k4,asAgg,Sem.run_pure]
       exact hu
     · cases hs
   · cases hs
 · cases hs
theorem s_extract {x:Operand} {i:Nat} (ho:o.op=.extract x i) (c:Cx P T M S0 w0 S β H w a ev nid r) (hs:semOp T env ev H nid o=some r):Goes P M S0 w0 S β H w o a r:=by
 simp only[semOp,ho] at hs
 have hx:=c.hev x
 split at hs
 · rename_i cc e
   split at hs
   · rename_i v hv
     simp only[ok,Option.some.injEq] at hs
     rw[e] at hx
     obtain⟨cs,e1,hcs⟩:=hx
     cases hc:cc.chain with
     | false=>rw[hc] at hv;simp at hv
     | true=>
      rw[hc] at hv
      simp only[if_true] at hv
      obtain⟨u,hu,hvu⟩:=VLs.get _ _ (VL.list_of cc cs hc hcs) i v hv
      subst hs
      have e2:a.eval x=.tuple cs.toArray:=by simpa using e1
      refine goes_same (u:=u) c rfl (s:=Instr.extract (a.eval x) i) (by simp only[execOp,ho]) ?_ hvu
      rw[e2]
      simp only[Instr.extract]
      rw[show cs.toArray[i]? = some u by simpa using hu]
      rfl
   · cases hs
 · cases hs
theorem VLs.of_eval (hev:∀x,VL S w β H (ev x) [a.eval x]):∀l:List Operand,VLs S w β H (l.map ev) (l.map a.eval)
 | []=>rfl
 | x::l=>⟨_,_,rfl,hev x,VLs.of_eval hev l⟩
theorem s_makeFunc {f:Fn} {x y:Array Operand} (ho:o.op=.makeFunc f x y) (c:Cx P T M S0 w0 S β H w a ev nid r) (hs:semOp T env ev H nid o=some r):Goes P M S0 w0 S β H w o a r:=by
 simp only[semOp,ho,ok,Option.some.injEq] at hs
 subst hs
 refine goes_same (u:=.func f (x.map a.eval) (y.map a.eval)) c rfl (s:=Instr.makeFunc f (x.map a.eval) (y.map a.eval)) (by simp only[execOp,ho]) rfl ?_
 refine⟨x.toList.map a.eval,y.toList.map a.eval,?_,VLs.of_list _ _ (VLs.of_eval c.hev _),VLs.of_list _ _ (VLs.of_eval c.hev _)⟩
 congr 2
 · apply Array.toList_inj.1;simp
 · apply Array.toList_inj.1;simp
theorem s_convert {s d:TypeId} {x:Operand} (ho:o.op=.convert s d x) (c:Cx P T M S0 w0 S β H w a ev nid r) (hs:semOp T env ev H nid o=some r)
 (hB:∀e,(T.at_ s).d=.slice e→(T.at_ d).d=.scalar→(T.at_ d).t=some .str→semBytes T H e (typed T s (ev x))=some r→Goes P M S0 w0 S β H w o a r):Goes P M S0 w0 S β H w o a r:=by
 simp only[semOp,ho] at hs
 have hx:=c.hev x
 split at hs
 · rename_i k0 n k e hd1 hd2 ht
   simp only[ok,Option.some.injEq] at hs
   subst hs
   rw[e] at hx
   have hx:=VL.int hx
   have h1:=(c.hT s (by rw[hd1];simp)).desc
   have h2:=(c.hT d (by rw[hd2];simp)).desc
   unfold DescOk at h1 h2
   rw[hd1] at h1
   rw[hd2] at h2
   obtain⟨d1,g1,_⟩:=h1
   obtain⟨d2,g2,_,g3,_⟩:=h2
   have g3:=g3 k ht
   subst g3
   refine goes_same (u:=.int k (k.wrap n)) c rfl (s:=convert s d (a.eval x)) (by simp only[execOp,ho]) ?_ ⟨_,rfl,rfl⟩
   rw[hx]
   have hk:P.intKind d=k:=by simp[Program.intKind,g2]
   have:=run_convert_int (P:=P) w s d k0 n (by rw[g1];rfl) (by rw[hk];exact g2)
   rw[hk] at this
   exact this
 · rename_i h1 h2 h3
   exact hB _ h1 h2 h3 hs
 · cases hs
theorem s_makeInterface {t:TypeId} {x:Operand} (ho:o.op=.makeInterface t x) (c:Cx P T M S0 w0 S β H w a ev nid r) (hs:semOp T env ev H nid o=some r):Goes P M S0 w0 S β H w o a r:=by
 simp only[semOp,ho] at hs
 have hx:=c.hev x
 have fin:r=⟨[],.iface t (ev x),[]⟩→(∃d,P.underlying t=some d∧∀m,d≠.interface m)→Goes P M S0 w0 S β H w o a r:=by
  rintro rfl ⟨d,hd,hn⟩
  refine goes_same (u:=.iface t (a.eval x)) c rfl (s:=Instr.makeInterface t (a.eval x)) (by simp only[execOp,ho]) ?_ ⟨_,rfl,hx⟩
  unfold Instr.makeInterface
  rw[Sem.run_bind,run_underlying hd]
  cases d<;>first
   | rfl
   | exact absurd rfl (hn _)
 have hdesc:(T.at_ t).d≠.unk→DescOk P t (T.at_ t):=fun h=>(c.hT t h).desc
 split at hs
 · rename_i hd
   simp only[ok,Option.some.injEq] at hs
   have h:=hdesc (by rw[hd];simp)
   unfold DescOk at h
   rw[hd] at h
   obtain⟨f,h1,_⟩:=h
   exact fin hs.symm ⟨_,h1,fun m=>by simp⟩
 · rename_i hd
   simp only[ok,Option.some.injEq] at hs
   have h:=hdesc (by rw[hd];simp)
   unfold DescOk at h
   rw[hd] at h
   exact fin hs.symm ⟨_,h.1,fun m=>by simp⟩
 · rename_i hd
   simp only[ok,Option.some.injEq] at hs
   have h:=hdesc (by rw[hd];simp)
   unfold DescOk at h
   rw[hd] at h
   exact fin hs.symm ⟨_,h,fun m=>by simp⟩
 · rename_i k hd ht
   simp only[ok,Option.some.injEq] at hs
   have h:=hdesc (by rw[hd];simp)
   unfold DescOk at h
   rw[hd] at h
   obtain⟨d,h1,_,h3,_,_⟩:=h
   exact fin hs.symm ⟨_,h1,fun m=>by rw[h3 k ht];simp⟩
 · rename_i hd ht
   simp only[ok,Option.some.injEq] at hs
   have h:=hdesc (by rw[hd];simp)
   unfold DescOk at h
   rw[hd] at h
   obtain⟨d,h1,_,_,h4,_⟩:=h
   exact fin hs.symm ⟨_,h1,fun m=>by rw[h4 ht];simp⟩
 · rename_i hd ht
   simp only[ok,Option.some.injEq] at hs
   have h:=hdesc (by rw[hd];simp)
   unfold DescOk at h
   rw[hd] at h
   obtain⟨d,h1,_,_,_,h5,_⟩:=h
   exact fin hs.symm ⟨_,h1,fun m=>by rw[h5 ht];simp⟩
 · cases hs
end
end Go.Proofs.YtkpjcmiijlpcaaaDoor.Aw
namespace Go.Proofs.YtkpjcmiijlpcaaaDoor.Aw
open Go
theorem foldl_set (us:List Value):∀(k off:Nat) (cs:Array Value),off+k+us.length≤cs.size →
 ((us.zipIdx k).foldl (fun cs p=>cs.setIfInBounds (off+p.2) p.1) cs).toList=cs.toList.take (off+k)++us++cs.toList.drop (off+k+us.length):=by
 induction us with
 | nil=>intro k off cs _;simp
 | cons u us ih=>
  intro k off cs h
  simp only[List.zipIdx_cons,List.foldl_cons]
  simp only[List.length_cons] at h
  rw[ih (k+1) off (cs.setIfInBounds (off+k) u) (by simp;omega)]
  have hlo:off+k<cs.toList.length:=by simp;omega
  rw[Array.toList_setIfInBounds,show off+(k+1)=off+k+1 by omega,List.take_succ_eq_append_getElem (by simpa using hlo),List.take_set_of_le (Nat.le_refl _),List.drop_set_of_lt (by omega)]
  simp[Nat.add_assoc,Nat.add_comm 1]
section
variable {P:Program} {T:Tab} {env:Env} {M S0:Nat→Prop} {w0:World} {S:Nat→Prop} {β:Nat→Cr} {H:Nat→Ob} {w:World} {o:Oper} {a:Act} {ev:Operand→AV} {nid:Nat} {r:Res}
theorem fill_of {i:TI} {place:Nat→Option (Nat×Nat)} (hp:∀f q,partOf T i f=some q→place f=some q) (hev:∀x,VL S w β H (ev x) [a.eval x]) :
 ∀(ps:List (Nat×Operand)) (l l':List AV) (cs:Array Value),VLs S w β H l cs.toList→fillL T i l (ps.map fun p=>(p.1,ev p.2))=some l' →
  ∃cs',Instr.fill place cs (ps.map fun p=>(p.1,a.eval p.2))=some cs'∧VLs S w β H l' cs'.toList
 | [],l,l',cs,hv,h=>by simp only[List.map_nil,fillL] at h;cases h;exact⟨cs,rfl,hv⟩
 | (f,x)::ps,l,l',cs,hv,h=>by
  simp only[List.map_cons,fillL] at h
  split at h
  · rename_i off n hq
    split at h
    · rename_i us hc
      split at h
      · rename_i hl
        obtain⟨hu,_⟩:=VL.cells_of hc (hev x)
        have hlen:=VLs.length _ _ hu
        have hlen2:=VLs.length _ _ hv
        have h1:=VLs.putL l cs.toList off us _ hv hu (by rw[hlen,hlen2,hl.1];exact hl.2)
        have hs:(a.eval x).cells.size=n:=by rw[←Array.length_toList,hlen];exact hl.1
        have e:((a.eval x).cells.zipIdx.foldl (fun cs p=>cs.setIfInBounds (off+p.2) p.1) cs).toList=cs.toList.take off++(a.eval x).cells.toList++cs.toList.drop (off+(a.eval x).cells.toList.length):=by
         rw[←Array.foldl_toList,Array.toList_zipIdx]
         have:=foldl_set (a.eval x).cells.toList 0 off cs (by rw[hlen,←Array.length_toList,hlen2,Nat.add_zero,hl.1];exact hl.2)
         simpa using this
        rw[←e] at h1
        obtain⟨cs',g1,g2⟩:=fill_of hp hev ps _ l' _ h1 h
        refine⟨cs',?_,g2⟩
        simp only[List.map_cons,Instr.fill,hp f _ hq]
        have hcs:cs.size=l.length:=by rw[←Array.length_toList,hlen2]
        rw[if_neg (by simp only[hs,hcs,ne_eq,not_true_eq_false,decide_false,Bool.false_or,decide_eq_true_eq];omega)]
        exact g1
      · cases h
    · cases h
  · cases h
theorem places_of {fields:List Field} (h:∀f∈fields,(P.info? f.type).isSome=true):∃places,fields.mapM (fun f=>(P.info? f.type).map fun i=>(f.offset,i.size))=some places∧∀(j:Nat) (f:Field) i,fields[j]? = some f→P.info? f.type=some i→places[j]? = some (f.offset,i.size):=by
 induction fields with
 | nil=>exact⟨[],by simp,fun j f i hj=>by simp at hj⟩
 | cons f fs ih=>
  obtain⟨i,hi⟩:=Option.isSome_iff_exists.1 (h f (by simp))
  obtain⟨ps,h1,h2⟩:=ih (fun g hg=>h g (by simp[hg]))
  refine⟨(f.offset,i.size)::ps,by simp[List.mapM_cons,hi,h1],fun j g k hj hk => ?_⟩
  cases j with
  | zero=>simp at hj;subst hj;rw[hi] at hk;cases hk;rfl
  | succ j=>simp at hj ⊢;exact h2 j g k hj hk
theorem zero_of (hT:TabOk P T) {t:TypeId} (hd:(T.at_ t).d≠.unk):∃f z,P.info? t=some f∧f.zero=some z∧f.size=(T.at_ t).size∧∀S w β H,VLs S w β H (T.at_ t).zero z.cells.toList:=by
 obtain⟨f,h1,h2,_,z,h3,h4⟩:=(hT t hd).info
 exact⟨f,z,h1,h3,h2,h4⟩
theorem built_of (hT:TabOk P T) (hev:∀x,VL S w β H (ev x) [a.eval x]) {t:TypeId} {ps:List (Nat×Operand)} {l':List AV} (h:fillL T (T.at_ t) (T.at_ t).zero (ps.map fun p=>(p.1,ev p.2))=some l') (hd:(∃fs,(T.at_ t).d=.struct fs)∨∃n e,(T.at_ t).d=.array n e) :
 ∃cs',P.built t (ps.map fun p=>(p.1,a.eval p.2))=some cs'∧VLs S w β H l' cs'.toList:=by
 rcases hd with ⟨fs,hd⟩ | ⟨n,e,hd⟩
 · obtain⟨f,z,h1,h3,h2,h4⟩:=zero_of hT (t:=t) (by rw[hd];simp)
   have hdesc:=(hT t (by rw[hd];simp)).desc
   unfold DescOk at hdesc
   rw[hd] at hdesc
   obtain⟨fields,g1,g2,g3⟩:=hdesc
   obtain⟨places,k1,k2⟩:=places_of g3
   have hp:∀f q,partOf T (T.at_ t) f=some q→places.toArray[f]? = some q:=by
    intro f q hq
    obtain⟨off,n⟩:=q
    obtain⟨t',m1,m2,m3⟩:=partOf_struct hd hq
    have m4:(fields.toList.map (fun f=>(f.offset,f.type)))[f]? = some (off,t'):=by rw[g2];exact m1
    rw[List.getElem?_map] at m4
    obtain⟨fl,m5,m6⟩:=Option.map_eq_some_iff.1 m4
    simp only[Prod.mk.injEq] at m6
    obtain⟨i,n1,n2,_⟩:=(hT t' m3).info
    have:=k2 f fl i m5 (by rw[m6.2];exact n1)
    rw[m6.1,n2,m2] at this
    simpa using this
   obtain⟨cs',q1,q2⟩:=fill_of (T:=T) hp hev ps _ l' z.cells (h4 _ _ _ _) h
   refine⟨cs',?_,q2⟩
   simp only[Program.built,h1,g1,h3,k1]
   exact q1
 · obtain⟨f,z,h1,h3,h2,h4⟩:=zero_of hT (t:=t) (by rw[hd];simp)
   have hdesc:=(hT t (by rw[hd];simp)).desc
   unfold DescOk at hdesc
   rw[hd] at hdesc
   obtain⟨hu,hi⟩:=hdesc
   obtain⟨ie,n1⟩:=Option.isSome_iff_exists.1 hi
   have hp:∀f q,partOf T (T.at_ t) f=some q→(some (f*ie.size,ie.size):Option (Nat×Nat))=some q:=by
    intro f q hq
    simp only[partOf,hd] at hq
    split at hq
    · cases hq
    · rename_i hk
      obtain⟨ie',m1,m2,_⟩:=(hT e (fun h=>hk h)).info
      rw[n1] at m1
      cases m1
      split at hq
      · cases hq;rw[m2]
      · cases hq
   obtain⟨cs',q1,q2⟩:=fill_of (T:=T) (place:=fun i=>some (i*ie.size,ie.size)) hp hev ps _ l' z.cells (h4 _ _ _ _) h
   refine⟨cs',?_,q2⟩
   simp only[Program.built,h1,hu,h3,n1]
   exact q1
theorem s_build {t:TypeId} {ps:Array (Nat×Operand)} (ho:o.op=.build t ps) (c:Cx P T M S0 w0 S β H w a ev nid r) (hs:semOp T env ev H nid o=some r):Goes P M S0 w0 S β H w o a r:=by
 simp only[semOp,ho] at hs
 split at hs
 · rename_i hg
   split at hs
   · rename_i cs hf
     simp only[ok,Option.some.injEq] at hs
     have hd:(∃fs,(T.at_ t).d=.struct fs)∨∃n e,(T.at_ t).d=.array n e:=by
      cases hd:(T.at_ t).d<;>rw[hd] at hg<;>simp[TD.isAgg] at hg
      · exact .inl ⟨_,rfl⟩
      · exact .inr ⟨_,_,rfl⟩
     obtain⟨cs',g1,g2⟩:=built_of c.hT c.hev (ps:=ps.toList) hf hd
     subst hs
     refine goes_same (u:=.agg cs') c rfl (s:=Instr.build t (ps.map fun p=>(p.1,a.eval p.2))) (by simp only[execOp,ho]) (run_build w t _ cs' ?_) ?_
     · rw[Array.toList_map];exact g1
     · exact⟨cs'.toList,by simp,VLs.of_list _ _ g2⟩
   · cases hs
 · cases hs
theorem s_alloc {t:TypeId} (ho:o.op=.alloc t) (c:Cx P T M S0 w0 S β H w a ev nid r) (hs:semOp T env ev H nid o=some r):Goes P M S0 w0 S β H w o a r:=by
 simp only[semOp,ho] at hs
 have main:(T.at_ t).d≠.unk→some (⟨[],.ptr nid 0,[(nid,.cells t (bif selfT t then selfZ nid (T.at_ t).zero else (T.at_ t).zero))]⟩:Res)=some r→Goes P M S0 w0 S β H w o a r:=by
  intro hd hs
  simp only[Option.some.injEq] at hs
  subst hs
  obtain⟨f,z,h1,h3,h2,h4⟩:=zero_of c.hT hd
  have hn:H nid=.none:=c.fresh (by simp)
  obtain⟨hr,hx⟩:=c.rel.newX nid hn z.cells t 0 (.cells t (bif selfT t then selfZ nid (T.at_ t).zero else (T.at_ t).zero)) (fun β' H' w' _ hb hH hh=>⟨_,z.cells.toList,rfl,by simpa using hh,by
   have h5:=h4 S w' β' H'
   cases hsf:selfT t with
   | false=>exact h5
   | true=>
    rw[hsf] at hH
    simp only[cond_true] at hH ⊢
    revert hH h5
    cases (T.at_ t).zero with
    | nil=>intro hH h5;exact h5
    | cons y l=>
     cases y<;>intro hH h5<;>try exact h5
     obtain⟨v,r,e,⟨v',e1,h6⟩,h7⟩:=h5
     cases e1
     exact⟨_,r,e,⟨_,rfl,by simp only[leaf,selfZ] at hH ⊢;rw[hH];exact⟨_,by rw[hb],.inl h6⟩⟩,h7⟩⟩)
  intro next Q hnx
  refine wp_val (v:=.pointer (some ⟨w.heap.size,0,none⟩)) (s:=Instr.alloc t true (.tuple #[])) (by simp only[execOp,ho]) ?_ (hnx _ _ _ _ hr ⟨_,rfl,?_⟩ hx)
  · simp only[Instr.alloc,zeroValue,typeInfo,newVar,newRow,newObj]
    simp[h1,h3,Sem.run,program]
  · simp only[leaf,updH_one]
    exact⟨_,by rw[setC_one],rfl⟩
 split at hs
 · cases hs
 · rename_i hd
   exact main (fun h=>hd h) hs
theorem s_box {t:TypeId} {x:Operand} (ho:o.op=.box t x) (c:Cx P T M S0 w0 S β H w a ev nid r) (hs:semOp T env ev H nid o=some r):Goes P M S0 w0 S β H w o a r:=by
 simp only[semOp,ho] at hs
 split at hs
 · rename_i l hc
   simp only[Option.some.injEq] at hs
   subst hs
   obtain⟨hv,_⟩:=VL.cells_of hc (c.hev x)
   have hn:H nid=.none:=c.fresh (by simp)
   obtain⟨hr,hx⟩:=c.rel.new nid hn (a.eval x).cells t 0 (.cells t l) (fun β' H' w' he hh=>⟨_,(a.eval x).cells.toList,rfl,by simpa using hh,VLs.ext he _ _ hv⟩)
   intro next Q hnx
   refine wp_val (v:=.pointer (some ⟨w.heap.size,0,none⟩)) (s:=Instr.box t (a.eval x)) (by simp only[execOp,ho]) ?_ (hnx _ _ _ _ hr ⟨_,rfl,?_⟩ hx)
   · simp only[Instr.box,newVar,newRow,newObj]
     simp[Sem.run]
   · simp only[leaf,updH_one]
     exact⟨_,by rw[setC_one],rfl⟩
 · cases hs
end
end Go.Proofs.YtkpjcmiijlpcaaaDoor.Aw
namespace Go.Proofs.YtkpjcmiijlpcaaaDoor.Aw
open Go
section
variable {P:Program} {T:Tab} {env:Env} {M S0:Nat→Prop} {w0:World} {S:Nat→Prop} {β:Nat→Cr} {H:Nat→Ob} {w:World} {o:Oper} {a:Act} {ev:Operand→AV} {nid:Nat} {r:Res}
theorem known_d {i:TI} (h:i.known=true):i.d≠.unk:=by
 intro e
 simp[TI.known,e] at h
theorem rowV_some {c:Cr} {g n:Nat} (h:c.g=some g):rowV c n=.slice (some ⟨g,0,none⟩) n c.cap:=by unfold rowV;rw[h]
theorem run_indexAddr_slice {t e:TypeId} (hT:TabOk P T) (hd:(T.at_ t).d=.slice e) (he:(T.at_ e).d≠.unk) (ad:Addr) (n cap:Nat) (k:IntKind) (j:Int) (h0:0≤j) (h1:j<(n:Int)) :
 (Instr.indexAt t (.slice (some ad) n cap) (.int k j)).run P w=.ok (.pointer (some (ad.add (j.toNat*(T.at_ e).size)))) w:=by
 have h:=(hT t (by rw[hd];simp)).desc
 unfold DescOk at h
 rw[hd] at h
 have hel:P.elem t=e:=by simp[Program.elem,h]
 rw[run_indexAt_slice (P:=P) w t ad n cap k j (by rw[hel];exact h),if_pos ⟨h0,h1⟩,hel,run_sizeOf hT he]
 rfl
theorem run_indexAddr_array {t e:TypeId} {n:Nat} (hT:TabOk P T) (hd:(T.at_ t).d=.array n e) (he:(T.at_ e).d≠.unk) (ad:Addr) (k:IntKind) (j:Int) (h0:0≤j) (h1:j<(n:Int)) :
 (Instr.indexAt t (.pointer (some ad)) (.int k j)).run P w=.ok (.pointer (some (ad.add (j.toNat*(T.at_ e).size)))) w:=by
 have h:=(hT t (by rw[hd];simp)).desc
 unfold DescOk at h
 rw[hd] at h
 have hel:P.elem t=e:=by simp[Program.elem,h.1]
 have hn:P.arrayLen t=n:=by simp[Program.arrayLen,h.1]
 rw[run_indexAt_array (P:=P) w t ad k j (by rw[hel,hn];exact h.1),hn,if_pos ⟨h0,h1⟩,hel,run_sizeOf hT he]
 rfl
theorem DR.list_at {e:TypeId} {t:Ty} {xs:List t.den} {u:Value} (h:DR S w (.list e t) xs [u]) (hs:0<t.size) (hx:xs≠[]):∃ad n c es,u=.slice (some ad) n c∧n=xs.length∧n≤c∧Cat (DR S w t) xs es∧Rd S w (some ad) es:=by
 obtain⟨ao,n,c,es,e1,e2,e3,e4,e5,_⟩:=h
 cases e1
 have hl:=Cat.length (DR.length t) _ _ e4
 have hpos:0<es.length:=by
  rw[hl]
  exact Nat.mul_pos (List.length_pos_iff.2 hx) hs
 obtain⟨ad,e6,_⟩:=e5 0 es[0] (List.getElem?_eq_getElem hpos)
 subst e6
 exact⟨ad,n,c,es,rfl,e2,e3,e4,e5⟩
theorem s_indexAddr {t:TypeId} {x i:Operand} (ho:o.op=.indexAddr t x i) (c:Cx P T M S0 w0 S β H w a ev nid r) (hs:semOp T env ev H nid o=some r):Goes P M S0 w0 S β H w o a r:=by
 simp only[semOp,ho] at hs
 have hx:=c.hev x
 have hi:=c.hev i
 have key:∀(v:AV) (gs:List Prop) (u:Value),(Instr.indexAt t (a.eval x) (a.eval i)).run P w=.ok u w→VL S w β H v [u]→r=⟨gs,v,[]⟩→Goes P M S0 w0 S β H w o a r:=by
  intro v gs u hr hv e
  subst e
  exact goes_same (u:=u) c rfl (s:=Instr.indexAt t (a.eval x) (a.eval i)) (by simp only[execOp,ho]) hr hv
 split at hs
 · rename_i n e k j hd ei
   rw[ei] at hi
   have hi:=VL.int hi
   split at hs
   rotate_left
   · cases hs
   · rename_i hsz
     have he:(T.at_ e).d≠.unk:=known_d hsz
     split at hs
     · rename_i k' off ex
       rw[ex] at hx
       simp only[okIf,Option.some.injEq] at hs
       have g0:=c.hgs (0≤j) (by rw[←hs];simp)
       have g1:=c.hgs (j<(n:Int)) (by rw[←hs];simp)
       obtain⟨u,e1,hl⟩:=hx
       cases e1
       simp only[leaf] at hl
       split at hl
       · rename_i hk
         obtain⟨g,hg,hv⟩:=hl
         refine key (.ptr k' (off+j.toNat*(T.at_ e).size)) _ (.pointer (some ((⟨g,off,none⟩:Addr).add (j.toNat*(T.at_ e).size)))) ?_ ⟨_,rfl,?_⟩ hs.symm
         · rw[hv,hi];exact run_indexAddr_array c.hT hd he _ _ _ g0 g1
         · simp only[leaf,hk]
           exact⟨g,hg,by rw[add_lit]⟩
       · rename_i hk
         obtain⟨ad,hv⟩:=hl
         refine key (.ptr k' (off+j.toNat*(T.at_ e).size)) _ (.pointer (some (ad.add (j.toNat*(T.at_ e).size)))) ?_ ⟨_,rfl,?_⟩ hs.symm
         · rw[hv,hi];exact run_indexAddr_array c.hT hd he _ _ _ g0 g1
         · simp only[leaf,hk]
           exact⟨_,rfl⟩
       · exact hl.elim
     · rename_i k' i' off ex
       rw[ex] at hx
       simp only[okIf,Option.some.injEq] at hs
       have g0:=c.hgs (0≤j) (by rw[←hs];simp)
       have g1:=c.hgs (j<(n:Int)) (by rw[←hs];simp)
       obtain⟨u,e1,hl⟩:=hx
       cases e1
       simp only[leaf] at hl
       split at hl
       · rename_i el ty xs hk
         obtain⟨g,hg,q0,q1,hv⟩:=hl
         refine key (.rptr k' i' (off+j.toNat*(T.at_ e).size)) _ (.pointer (some (((⟨g,0,none⟩:Addr).add (i'.toNat*ty.size+off)).add (j.toNat*(T.at_ e).size)))) ?_ ⟨_,rfl,?_⟩ hs.symm
         · rw[hv,hi];exact run_indexAddr_array c.hT hd he _ _ _ g0 g1
         · simp only[leaf,hk]
           exact⟨g,hg,q0,q1,by rw[add_add,Nat.add_assoc]⟩
       · rename_i el ty xs hk
         obtain⟨g,hg,q0,q1,hv⟩:=hl
         refine key (.rptr k' i' (off+j.toNat*(T.at_ e).size)) _ (.pointer (some (((⟨g,0,none⟩:Addr).add (i'.toNat*ty.size+off)).add (j.toNat*(T.at_ e).size)))) ?_ ⟨_,rfl,?_⟩ hs.symm
         · rw[hv,hi];exact run_indexAddr_array c.hT hd he _ _ _ g0 g1
         · simp only[leaf,hk]
           exact⟨g,hg,q0,q1,by rw[add_add,Nat.add_assoc]⟩
       · rename_i el ty xs _ _ hk
         obtain⟨g,hg,q0,q1,hv⟩:=hl
         refine key (.rptr k' i' (off+j.toNat*(T.at_ e).size)) _ (.pointer (some (((⟨g,0,none⟩:Addr).add (i'.toNat*ty.size+off)).add (j.toNat*(T.at_ e).size)))) ?_ ⟨_,rfl,?_⟩ hs.symm
         · rw[hv,hi];exact run_indexAddr_array c.hT hd he _ _ _ g0 g1
         · simp only[leaf,hk]
           exact⟨g,hg,q0,q1,by rw[add_add,Nat.add_assoc]⟩
       · rename_i hk
         obtain⟨ad,hv⟩:=hl
         refine key (.rptr k' i' (off+j.toNat*(T.at_ e).size)) _ (.pointer (some (ad.add (j.toNat*(T.at_ e).size)))) ?_ ⟨_,rfl,?_⟩ hs.symm
         · rw[hv,hi];exact run_indexAddr_array c.hT hd he _ _ _ g0 g1
         · simp only[leaf,hk]
           exact⟨_,rfl⟩
       · exact hl.elim
     · rename_i e' t' xs i' off ex
       rw[ex] at hx
       simp only[okIf,Option.some.injEq] at hs
       obtain⟨u,e1,hl⟩:=hx
       cases e1
       obtain⟨q0,q1,ad,es,hcat,hrd,hv⟩:=hl
       have g0:=c.hgs (0≤j) (by rw[←hs];simp)
       have g1:=c.hgs (j<(n:Int)) (by rw[←hs];simp)
       refine key (.lptr e' t' xs i' (off+j.toNat*(T.at_ e).size)) _ (.pointer (some (ad.add (i'.toNat*t'.size+(off+j.toNat*(T.at_ e).size))))) ?_ ⟨_,rfl,q0,q1,ad,es,hcat,hrd,rfl⟩ hs.symm
       rw[hv,hi,run_indexAddr_array c.hT hd he _ _ _ g0 g1,add_add,Nat.add_assoc]
     · cases hs
 · rename_i e k j hd ei
   rw[ei] at hi
   have hi:=VL.int hi
   split at hs
   · rename_i k' ex
     rw[ex] at hx
     split at hs
     · rename_i el ty xs hk
       split at hs
       · rename_i hsz
         have he:(T.at_ e).d≠.unk:=known_d hsz.1
         simp only[okIf,Option.some.injEq] at hs
         obtain⟨u,e1,hl⟩:=hx
         cases e1
         simp only[leaf,hk] at hl
         have g0:=c.hgs (0≤j) (by rw[←hs];simp)
         have g1:=c.hgs (j<(xs.length:Int)) (by rw[←hs];simp)
         have hob:=c.rel.ob k'
         rw[hk] at hob
         rcases hob with ⟨_,e2⟩ | ⟨g,cur,e2,_⟩
         · subst e2;simp at g1;omega
         · refine key (.rptr k' j 0) _ (.pointer (some ((⟨g,0,none⟩:Addr).add (j.toNat*(T.at_ e).size)))) ?_ ⟨_,rfl,?_⟩ hs.symm
           · rw[hl,hi,rowV_some e2];exact run_indexAddr_slice c.hT hd he _ _ _ _ _ g0 g1
           · simp only[leaf,hk]
             exact⟨g,e2,g0,g1,by rw[hsz.2.1,Nat.add_zero]⟩
       · cases hs
     · rename_i el ty xs hk
       split at hs
       · rename_i hsz
         have he:(T.at_ e).d≠.unk:=known_d hsz.1
         simp only[okIf,Option.some.injEq] at hs
         obtain⟨u,e1,hl⟩:=hx
         cases e1
         simp only[leaf,hk] at hl
         have g0:=c.hgs (0≤j) (by rw[←hs];simp)
         have g1:=c.hgs (j<(xs.length:Int)) (by rw[←hs];simp)
         have hob:=c.rel.ob k'
         rw[hk] at hob
         rcases hob with ⟨_,e2,_⟩ | ⟨g,cur,e2,_⟩
         · subst e2;simp at g1;omega
         · refine key (.rptr k' j 0) _ (.pointer (some ((⟨g,0,none⟩:Addr).add (j.toNat*(T.at_ e).size)))) ?_ ⟨_,rfl,?_⟩ hs.symm
           · rw[hl,hi,rowV_some e2];exact run_indexAddr_slice c.hT hd he _ _ _ _ _ g0 g1
           · simp only[leaf,hk]
             exact⟨g,e2,g0,g1,by rw[hsz.2.1,Nat.add_zero]⟩
       · cases hs
     · rename_i el ty xs _ _ hk
       split at hs
       · rename_i hsz
         have he:(T.at_ e).d≠.unk:=known_d hsz.1
         simp only[okIf,Option.some.injEq] at hs
         obtain⟨u,e1,hl⟩:=hx
         cases e1
         simp only[leaf,hk] at hl
         have g0:=c.hgs (0≤j) (by rw[←hs];simp)
         have g1:=c.hgs (j<(xs.length:Int)) (by rw[←hs];simp)
         have hob:=c.rel.ob k'
         rw[hk] at hob
         obtain⟨g,cur,e2,_⟩:=hob
         refine key (.rptr k' j 0) _ (.pointer (some ((⟨g,0,none⟩:Addr).add (j.toNat*(T.at_ e).size)))) ?_ ⟨_,rfl,?_⟩ hs.symm
         · rw[hl,hi,rowV_some e2];exact run_indexAddr_slice c.hT hd he _ _ _ _ _ g0 g1
         · simp only[leaf,hk]
           exact⟨g,e2,g0,g1,by rw[hsz.2.1,Nat.add_zero]⟩
       · cases hs
     · cases hs
   · rename_i e' ty xs ex
     rw[ex] at hx
     split at hs
     · rename_i hsz
       have he:(T.at_ e).d≠.unk:=known_d hsz.1
       simp only[okIf,Option.some.injEq] at hs
       obtain⟨u,e1,hl⟩:=hx
       cases e1
       have g0:=c.hgs (0≤j) (by rw[←hs];simp)
       have g1:=c.hgs (j<(xs.length:Int)) (by rw[←hs];simp)
       obtain⟨ad,n,cc,es,e2,e3,e4,e5,e6⟩:=DR.list_at (e:=e') hl hsz.2.2 (by intro h;rw[h] at g1;simp at g1;omega)
       refine key (.lptr e' ty xs j 0) _ (.pointer (some (ad.add (j.toNat*ty.size+0)))) ?_ ⟨_,rfl,g0,g1,ad,es,e5,e6,rfl⟩ hs.symm
       rw[e2,hi,run_indexAddr_slice c.hT hd he _ _ _ _ _ g0 (by rw[e3];exact g1),hsz.2.1,Nat.add_zero]
     · cases hs
   · rename_i k' lo n e' ty ex
     rw[ex] at hx
     obtain⟨u,e1,hl⟩:=hx
     cases e1
     split at hs
     · rename_i el ty' xs hk
       split at hs
       rotate_left
       · cases hs
       rename_i hsz
       obtain⟨hk1,hk2,rfl,hk3⟩:=hsz
       have he:(T.at_ e).d≠.unk:=known_d hk1
       simp only[okIf,Option.some.injEq] at hs
       simp only[leaf,hk] at hl
       obtain⟨ao,cc,hv,h0,h1,h2,h3⟩:=hl
       have g0:=c.hgs (0≤j) (by rw[←hs];simp)
       have g1:=c.hgs (j<(n:Int)) (by rw[←hs];simp)
       obtain⟨g,q1,q2⟩:=h2 (by omega)
       refine key (.rptr k' (lo+j) 0) _ (.pointer (some ((⟨g,lo*ty'.size,none⟩:Addr).add (j.toNat*(T.at_ e).size)))) ?_ ⟨_,rfl,?_⟩ hs.symm
       · rw[hv,hi,q2];exact run_indexAddr_slice c.hT hd he _ _ _ _ _ g0 g1
       · simp only[leaf,hk]
         refine⟨g,q1,by omega,by omega,?_⟩
         rw[add_lit,add_lit,hk2]
         have:((lo:Int)+j).toNat=lo+j.toNat:=by omega
         rw[this,Nat.add_mul]
         simp
     · rename_i el cs hk
       split at hs
       rotate_left
       · cases hs
       rename_i hsz
       have he:(T.at_ e).d≠.unk:=known_d hsz.1
       simp only[okIf,Option.some.injEq] at hs
       simp only[leaf,hk] at hl
       obtain⟨ao,cc,hv,h0,h2,h3⟩:=hl
       have g0:=c.hgs (0≤j) (by rw[←hs];simp)
       have g1:=c.hgs (j<(n:Int)) (by rw[←hs];simp)
       obtain⟨g,q1,q2⟩:=h2 (by omega)
       refine key (.ptr k' (lo+j.toNat*ty.size)) _ (.pointer (some ((⟨g,lo,none⟩:Addr).add (j.toNat*(T.at_ e).size)))) ?_ ⟨_,rfl,?_⟩ hs.symm
       · rw[hv,hi,q2];exact run_indexAddr_slice c.hT hd he _ _ _ _ _ g0 g1
       · simp only[leaf,hk]
         exact⟨g,q1,by rw[add_lit,hsz.2]⟩
     · cases hs
   · rename_i k' ex
     rw[ex] at hx
     obtain⟨u,e1,hl⟩:=hx
     cases e1
     split at hs
     · rename_i el cs hk
       split at hs
       rotate_left
       · cases hs
       rename_i hsz
       have he:(T.at_ e).d≠.unk:=known_d hsz.1
       simp only[okIf,Option.some.injEq] at hs
       simp only[leaf,hk] at hl
       have g0:=c.hgs (0≤j) (by rw[←hs];simp)
       have g1:=c.hgs (j<(cs.length:Int)) (by rw[←hs];simp)
       have hob:=c.rel.ob k'
       rw[hk] at hob
       rcases hob with ⟨_,e2⟩ | ⟨g,cur,e2,_⟩
       · subst e2;simp at g1;omega
       · refine key (.pptr k' j.toNat) _ (.pointer (some ((⟨g,0,none⟩:Addr).add (j.toNat*(T.at_ e).size)))) ?_ ⟨_,rfl,?_⟩ hs.symm
         · rw[hl,hi,rowV_some e2];exact run_indexAddr_slice c.hT hd he _ _ _ _ _ g0 g1
         · simp only[leaf,hk]
           exact⟨g,e2,by omega,by rw[add_lit,hsz.2];simp⟩
     · cases hs
   · cases hs
 · cases hs
end
end Go.Proofs.YtkpjcmiijlpcaaaDoor.Aw
