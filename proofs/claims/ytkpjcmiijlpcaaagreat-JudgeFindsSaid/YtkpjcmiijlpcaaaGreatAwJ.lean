/- An abstract program logic over the model, seventh part: addresses, parts, new variables, s. -/
import Derived.Test.YtkpjcmiijlpcaaaGreatAwF
import Derived.Laws.CopyRow
namespace Go.Proofs.YtkpjcmiijlpcaaaGreat.Aw
open Go
section
variable {P:Program} {T:Tab} {env:Env} {M S0:Nat→Prop} {w0:World} {S:Nat→Prop} {β:Nat→Cr} {H:Nat→Ob} {w:World} {o:Oper} {a:Act} {ev:Operand→AV} {nid:Nat} {r:Res}
theorem VL.agg {x:AV} {u:Value} (h:VL S w β H (.agg x) [u]):∃cs,u=.agg cs.toArray∧VL S w β H x cs:=by
 obtain⟨cs,e,h1⟩:=h
 cases e
 exact⟨cs,rfl,h1⟩
theorem run_field {s:TypeId} {fs:List (Nat×TypeId)} {f:Nat} {off:Nat} {t:TypeId} (hT:TabOk P T) (hd:(T.at_ s).d=.struct fs) (hf:fs[f]? = some (off,t)) :
 ∃(fields:Array Field) (fl:Field),P.underlying s=some (.struct fields)∧fields[f]? = some fl∧fl.offset=off∧fl.type=t:=by
 have h:=(hT s (by rw[hd];simp)).desc
 unfold DescOk at h
 rw[hd] at h
 obtain⟨fields,h1,h2,_⟩:=h
 have h3:(fields.toList.map (fun f=>(f.offset,f.type)))[f]? = some (off,t):=by rw[h2];exact hf
 rw[List.getElem?_map] at h3
 obtain⟨fl,h4,h5⟩:=Option.map_eq_some_iff.1 h3
 simp only[Prod.mk.injEq] at h5
 exact⟨fields,fl,h1,by simpa using h4,h5.1,h5.2⟩
theorem partOf_struct {i:TI} {fs:List (Nat×TypeId)} {f off n:Nat} (hd:i.d=.struct fs) (h:partOf T i f=some (off,n)):∃t,fs[f]? = some (off,t)∧(T.at_ t).size=n∧(T.at_ t).d≠.unk:=by
 unfold partOf at h
 rw[hd] at h
 simp only at h
 split at h
 · rename_i o t hf
   split at h
   · cases h
   · rename_i hk
     cases h
     exact⟨t,hf,rfl,fun e=>hk e⟩
 · cases h
theorem s_fieldAddr {s:TypeId} {x:Operand} {f:Nat} (ho:o.op=.fieldAddr s x f) (c:Cx P T M S0 w0 S β H w a ev nid r) (hs:semOp T env ev H nid o=some r):Goes P M S0 w0 S β H w o a r:=by
 simp only[semOp,ho] at hs
 have hx:=c.hev x
 split at hs
 · rename_i fs hd
   have key:∀(off n:Nat) (v:AV) (ad:Addr),partOf T (T.at_ s) f=some (off,n)→0<n→a.eval x=.pointer (some ad)→VL S w β H v [.pointer (some (ad.add off))]→r=⟨[],v,[]⟩→Goes P M S0 w0 S β H w o a r:=by
    intro off n v ad hp hn e1 hv e2
    obtain⟨t,h1,h2,h3⟩:=partOf_struct hd hp
    obtain⟨fields,fl,g1,g2,g3,g4⟩:=run_field c.hT hd h1
    subst e2
    refine goes_same (u:=.pointer (some (ad.add off))) c rfl (s:=Instr.fieldAt s (a.eval x) f) (by simp only[execOp,ho]) ?_ hv
    have hsz:=run_sizeOf c.hT h3 w
    rw[e1]
    simp only[Instr.fieldAt,Instr.sureAddr,Sem.run_bind,run_underlying g1,Result.andThen_ok,g2,Sem.run_pure,fieldPlace,g4,hsz,g3]
    rw[if_neg (by omega)]
    rfl
   split at hs
   · rename_i o' n k off hp e
     split at hs
     · rename_i hn
       rw[e] at hx
       obtain⟨u,e1,hl⟩:=hx
       cases e1
       simp only[leaf] at hl
       simp only[ok,Option.some.injEq] at hs
       split at hl
       · rename_i hk
         obtain⟨g,hg,hv⟩:=hl
         refine key o' n (.ptr k (off+o')) _ hp hn hv ⟨_,rfl,?_⟩ hs.symm
         simp only[leaf]
         rw[hk]
         exact⟨g,hg,by rw[add_lit]⟩
       · rename_i hk
         obtain⟨ad,hv⟩:=hl
         refine key o' n (.ptr k (off+o')) _ hp hn hv ⟨_,rfl,?_⟩ hs.symm
         simp only[leaf]
         rw[hk]
         exact⟨_,rfl⟩
       · exact hl.elim
     · cases hs
   · rename_i o' n k i off hp e
     split at hs
     · rename_i hn
       rw[e] at hx
       obtain⟨u,e1,hl⟩:=hx
       cases e1
       simp only[leaf] at hl
       simp only[ok,Option.some.injEq] at hs
       split at hl
       · rename_i hk
         obtain⟨g,hg,h0,h1,hv⟩:=hl
         refine key o' n (.rptr k i (off+o')) _ hp hn hv ⟨_,rfl,?_⟩ hs.symm
         simp only[leaf]
         rw[hk]
         exact⟨g,hg,h0,h1,by rw[add_add,Nat.add_assoc]⟩
       · rename_i hk
         obtain⟨g,hg,h0,h1,hv⟩:=hl
         refine key o' n (.rptr k i (off+o')) _ hp hn hv ⟨_,rfl,?_⟩ hs.symm
         simp only[leaf]
         rw[hk]
         exact⟨g,hg,h0,h1,by rw[add_add,Nat.add_assoc]⟩
       · rename_i hk
         obtain⟨g,hg,h0,h1,hv⟩:=hl
         refine key o' n (.rptr k i (off+o')) _ hp hn hv ⟨_,rfl,?_⟩ hs.symm
         simp only[leaf]
         rw[hk]
         exact⟨g,hg,h0,h1,by rw[add_add,Nat.add_assoc]⟩
       · rename_i hk
         obtain⟨ad,hv⟩:=hl
         refine key o' n (.rptr k i (off+o')) _ hp hn hv ⟨_,rfl,?_⟩ hs.symm
         simp only[leaf]
         rw[hk]
         exact⟨_,rfl⟩
       · exact hl.elim
     · cases hs
   · rename_i o' n e' t' xs i off hp e
     split at hs
     · rename_i hn
       simp only[ok,Option.some.injEq] at hs
       rw[e] at hx
       obtain⟨u,e1,hl⟩:=hx
       cases e1
       obtain⟨h0,hi,ad,es,hcat,hrd,hv⟩:=hl
       exact key o' n (.lptr e' t' xs i (off+o')) _ hp hn hv ⟨_,rfl,h0,hi,ad,es,hcat,hrd,by rw[add_add,Nat.add_assoc]⟩ hs.symm
     · cases hs
   · cases hs
 · cases hs
theorem s_nilCheck {x:Operand} (ho:o.op=.nilCheck x) (c:Cx P T M S0 w0 S β H w a ev nid r) (hs:semOp T env ev H nid o=some r):Goes P M S0 w0 S β H w o a r:=by
 simp only[semOp,ho] at hs
 have hx:=c.hev x
 have key:∀(v:AV) (ad:Addr),a.eval x=.pointer (some ad)→VL S w β H v [.pointer (some ad)]→r=⟨[],v,[]⟩→Goes P M S0 w0 S β H w o a r:=by
  intro v ad e1 hv e2
  subst e2
  refine goes_same (u:=.pointer (some ad)) c rfl (s:=pure (.pointer (some ad))) ?_ rfl hv
  simp only[execOp,ho,e1]
  rfl
 split at hs
 · rename_i k off e
   simp only[ok,Option.some.injEq] at hs
   rw[e] at hx
   have hx':=hx
   obtain⟨u,e1,hl⟩:=hx
   cases e1
   simp only[leaf] at hl
   split at hl
   · obtain⟨g,hg,hv⟩:=hl
     rw[hv] at hx'
     exact key _ _ hv hx' hs.symm
   · obtain⟨ad,hv⟩:=hl
     rw[hv] at hx'
     exact key _ _ hv hx' hs.symm
   · exact hl.elim
 · rename_i k i off e
   simp only[ok,Option.some.injEq] at hs
   rw[e] at hx
   have hx':=hx
   obtain⟨u,e1,hl⟩:=hx
   cases e1
   simp only[leaf] at hl
   split at hl
   · obtain⟨g,hg,_,_,hv⟩:=hl
     rw[hv] at hx'
     exact key _ _ hv hx' hs.symm
   · obtain⟨g,hg,_,_,hv⟩:=hl
     rw[hv] at hx'
     exact key _ _ hv hx' hs.symm
   · obtain⟨g,hg,_,_,hv⟩:=hl
     rw[hv] at hx'
     exact key _ _ hv hx' hs.symm
   · obtain⟨ad,hv⟩:=hl
     rw[hv] at hx'
     exact key _ _ hv hx' hs.symm
   · exact hl.elim
 · rename_i el ty xs i off e
   simp only[ok,Option.some.injEq] at hs
   rw[e] at hx
   have hx':=hx
   obtain⟨u,e1,hl⟩:=hx
   cases e1
   obtain⟨_,_,ad,es,_,_,hv⟩:=hl
   rw[hv] at hx'
   exact key _ _ hv hx' hs.symm
 · cases hs
theorem s_field {s:TypeId} {x:Operand} {f:Nat} (ho:o.op=.field s x f) (c:Cx P T M S0 w0 S β H w a ev nid r) (hs:semOp T env ev H nid o=some r):Goes P M S0 w0 S β H w o a r:=by
 simp only[semOp,ho] at hs
 have hx:=c.hev x
 split at hs
 · rename_i fs hd
   split at hs
   · rename_i o' n off t cc hp hf e
     split at hs
     · rename_i hc
       obtain⟨v,h1,h2⟩:=Option.bind_eq_some_iff.1 hs
       simp only[ok,Option.some.injEq] at h2
       obtain⟨t',g0,g1,g2⟩:=partOf_struct hd hp
       rw[hf] at g0
       cases g0
       obtain⟨fields,fl,k1,k2,k3,k4⟩:=run_field c.hT hd hf
       rw[e] at hx
       obtain⟨cs,e1,hcs⟩:=VL.agg hx
       have hv:=VL.list_of cc cs hc.1 hcs
       rw[←g1] at h1
       obtain⟨u,hu,hvu⟩:=part_of c.hT (cs:=cs.toArray) (by simpa using hv) h1
       subst h2
       refine goes_same (u:=u) c rfl (s:=Instr.field s (a.eval x) f) (by simp only[execOp,ho]) ?_ hvu
       rw[e1]
       simp only[Instr.field,Sem.run_bind,run_underlying k1,Result.andThen_ok,k2,k3,k4,asAgg,Sem.run_pure]
       exact hu
     · cases hs
   · cases hs
 · cases hs
theorem s_extract {x:Operand} {i:Nat} (ho:o.op=.extract x i) (c:Cx P T M S0 w0 S β H w a ev nid r) (hs:semOp T env ev H nid o=some r):Goes P M S0 w0 S β H w o a r:=by
 simp only[semOp,ho] at hs
 have hx:=c.hev x
 split at hs
 · rename_i cc e
   split at hs
   · rename_i v hv
     simp only[ok,Option.some.injEq] at hs
     rw[e] at hx
     obtain⟨cs,e1,hcs⟩:=hx
     cases hc:cc.chain with
     | false=>rw[hc] at hv;simp at hv
     | true=>
      rw[hc] at hv
      simp only[if_true] at hv
      obtain⟨u,hu,hvu⟩:=VLs.get _ _ (VL.list_of cc cs hc hcs) i v hv
      subst hs
      have e2:a.eval x=.tuple cs.toArray:=by simpa using e1
      refine goes_same (u:=u) c rfl (s:=Instr.extract (a.eval x) i) (by simp only[execOp,ho]) ?_ hvu
      rw[e2]
      simp only[Instr.extract]
      rw[show cs.toArray[i]? = some u by simpa using hu]
      rfl
   · cases hs
 · cases hs
theorem VLs.of_eval (hev:∀x,VL S w β H (ev x) [a.eval x]):∀l:List Operand,VLs S w β H (l.map ev) (l.map a.eval)
 | []=>rfl
 | x::l=>⟨_,_,rfl,hev x,VLs.of_eval hev l⟩
theorem s_makeFunc {f:Fn} {x y:Array Operand} (ho:o.op=.makeFunc f x y) (c:Cx P T M S0 w0 S β H w a ev nid r) (hs:semOp T env ev H nid o=some r):Goes P M S0 w0 S β H w o a r:=by
 simp only[semOp,ho,ok,Option.some.injEq] at hs
 subst hs
 refine goes_same (u:=.func f (x.map a.eval) (y.map a.eval)) c rfl (s:=Instr.makeFunc f (x.map a.eval) (y.map a.eval)) (by simp only[execOp,ho]) rfl ?_
 refine⟨x.toList.map a.eval,y.toList.map a.eval,?_,VLs.of_list _ _ (VLs.of_eval c.hev _),VLs.of_list _ _ (VLs.of_eval c.hev _)⟩
 congr 2
 · apply Array.toList_inj.1;simp
 · apply Array.toList_inj.1;simp
theorem s_convert {s d:TypeId} {x:Operand} (ho:o.op=.convert s d x) (c:Cx P T M S0 w0 S β H w a ev nid r) (hs:semOp T env ev H nid o=some r):Goes P M S0 w0 S β H w o a r:=by
 simp only[semOp,ho] at hs
 have hx:=c.hev x
 split at hs
 · rename_i k0 n k e hd1 hd2 ht
   simp only[ok,Option.some.injEq] at hs
   subst hs
   rw[e] at hx
   have hx:=VL.int hx
   have h1:=(c.hT s (by rw[hd1];simp)).desc
   have h2:=(c.hT d (by rw[hd2];simp)).desc
   unfold DescOk at h1 h2
   rw[hd1] at h1
   rw[hd2] at h2
   obtain⟨d1,g1,_⟩:=h1
   obtain⟨d2,g2,_,g3,_⟩:=h2
   have g3:=g3 k ht
   subst g3
   refine goes_same (u:=.int k (k.wrap n)) c rfl (s:=convert s d (a.eval x)) (by simp only[execOp,ho]) ?_ ⟨_,rfl,rfl⟩
   rw[hx]
   have hk:P.intKind d=k:=by simp[Program.intKind,g2]
   have:=run_convert_int (P:=P) w s d k0 n (by rw[g1];rfl) (by rw[hk];exact g2)
   rw[hk] at this
   exact this
 · cases hs
theorem s_makeInterface {t:TypeId} {x:Operand} (ho:o.op=.makeInterface t x) (c:Cx P T M S0 w0 S β H w a ev nid r) (hs:semOp T env ev H nid o=some r):Goes P M S0 w0 S β H w o a r:=by
 simp only[semOp,ho] at hs
 have hx:=c.hev x
 have fin:r=⟨[],.iface t (ev x),[]⟩→(∃d,P.underlying t=some d∧∀m,d≠.interface m)→Goes P M S0 w0 S β H w o a r:=by
  rintro rfl ⟨d,hd,hn⟩
  refine goes_same (u:=.iface t (a.eval x)) c rfl (s:=Instr.makeInterface t (a.eval x)) (by simp only[execOp,ho]) ?_ ⟨_,rfl,hx⟩
  unfold Instr.makeInterface
  rw[Sem.run_bind,run_underlying hd]
  cases d<;>first
   | rfl
   | exact absurd rfl (hn _)
 have hdesc:(T.at_ t).d≠.unk→DescOk P t (T.at_ t):=fun h=>(c.hT t h).desc
 split at hs
 · rename_i hd
   simp only[ok,Option.some.injEq] at hs
   have h:=hdesc (by rw[hd];simp)
   unfold DescOk at h
   rw[hd] at h
   obtain⟨f,h1,_⟩:=h
   exact fin hs.symm ⟨_,h1,fun m=>by simp⟩
 · rename_i hd
   simp only[ok,Option.some.injEq] at hs
   have h:=hdesc (by rw[hd];simp)
   unfold DescOk at h
   rw[hd] at h
   exact fin hs.symm ⟨_,h.1,fun m=>by simp⟩
 · rename_i hd
   simp only[ok,Option.some.injEq] at hs
   have h:=hdesc (by rw[hd];simp)
   unfold DescOk at h
   rw[hd] at h
   exact fin hs.symm ⟨_,h,fun m=>by simp⟩
 · rename_i k hd ht
   simp only[ok,Option.some.injEq] at hs
   have h:=hdesc (by rw[hd];simp)
   unfold DescOk at h
   rw[hd] at h
   obtain⟨d,h1,_,h3,_,_⟩:=h
   exact fin hs.symm ⟨_,h1,fun m=>by rw[h3 k ht];simp⟩
 · rename_i hd ht
   simp only[ok,Option.some.injEq] at hs
   have h:=hdesc (by rw[hd];simp)
   unfold DescOk at h
   rw[hd] at h
   obtain⟨d,h1,_,_,h4,_⟩:=h
   exact fin hs.symm ⟨_,h1,fun m=>by rw[h4 ht];simp⟩
 · rename_i hd ht
   simp only[ok,Option.some.injEq] at hs
   have h:=hdesc (by rw[hd];simp)
   unfold DescOk at h
   rw[hd] at h
   obtain⟨d,h1,_,_,_,h5,_⟩:=h
   exact fin hs.symm ⟨_,h1,fun m=>by rw[h5 ht];simp⟩
 · cases hs
end
end Go.Proofs.YtkpjcmiijlpcaaaGreat.Aw
namespace Go.Proofs.YtkpjcmiijlpcaaaGreat.Aw
open Go
theorem foldl_set (us:List Value):∀(k off:Nat) (cs:Array Value),off+k+us.length≤cs.size →
 ((us.zipIdx k).foldl (fun cs p=>cs.setIfInBounds (off+p.2) p.1) cs).toList=cs.toList.take (off+k)++us++cs.toList.drop (off+k+us.length):=by
 induction us with
 | nil=>intro k off cs _;simp
 | cons u us ih=>
  intro k off cs h
  simp only[List.zipIdx_cons,List.foldl_cons]
  simp only[List.length_cons] at h
  rw[ih (k+1) off (cs.setIfInBounds (off+k) u) (by simp;omega)]
  have hlo:off+k<cs.toList.length:=by simp;omega
  rw[Array.toList_setIfInBounds,show off+(k+1)=off+k+1 by omega,List.take_succ_eq_append_getElem (by simpa using hlo),List.take_set_of_le (Nat.le_refl _),List.drop_set_of_lt (by omega)]
  simp[Nat.add_assoc,Nat.add_comm 1]
section
variable {P:Program} {T:Tab} {env:Env} {M S0:Nat→Prop} {w0:World} {S:Nat→Prop} {β:Nat→Cr} {H:Nat→Ob} {w:World} {o:Oper} {a:Act} {ev:Operand→AV} {nid:Nat} {r:Res}
theorem fill_of {i:TI} {place:Nat→Option (Nat×Nat)} (hp:∀f q,partOf T i f=some q→place f=some q) (hev:∀x,VL S w β H (ev x) [a.eval x]) :
 ∀(ps:List (Nat×Operand)) (l l':List AV) (cs:Array Value),VLs S w β H l cs.toList→fillL T i l (ps.map fun p=>(p.1,ev p.2))=some l' →
  ∃cs',Instr.fill place cs (ps.map fun p=>(p.1,a.eval p.2))=some cs'∧VLs S w β H l' cs'.toList
 | [],l,l',cs,hv,h=>by simp only[List.map_nil,fillL] at h;cases h;exact⟨cs,rfl,hv⟩
 | (f,x)::ps,l,l',cs,hv,h=>by
  simp only[List.map_cons,fillL] at h
  split at h
  · rename_i off n hq
    split at h
    · rename_i us hc
      split at h
      · rename_i hl
        obtain⟨hu,_⟩:=VL.cells_of hc (hev x)
        have hlen:=VLs.length _ _ hu
        have hlen2:=VLs.length _ _ hv
        have h1:=VLs.putL l cs.toList off us _ hv hu (by rw[hlen,hlen2,hl.1];exact hl.2)
        have hs:(a.eval x).cells.size=n:=by rw[←Array.length_toList,hlen];exact hl.1
        have e:((a.eval x).cells.zipIdx.foldl (fun cs p=>cs.setIfInBounds (off+p.2) p.1) cs).toList=cs.toList.take off++(a.eval x).cells.toList++cs.toList.drop (off+(a.eval x).cells.toList.length):=by
         rw[←Array.foldl_toList,Array.toList_zipIdx]
         have:=foldl_set (a.eval x).cells.toList 0 off cs (by rw[hlen,←Array.length_toList,hlen2,Nat.add_zero,hl.1];exact hl.2)
         simpa using this
        rw[←e] at h1
        obtain⟨cs',g1,g2⟩:=fill_of hp hev ps _ l' _ h1 h
        refine⟨cs',?_,g2⟩
        simp only[List.map_cons,Instr.fill,hp f _ hq]
        have hcs:cs.size=l.length:=by rw[←Array.length_toList,hlen2]
        rw[if_neg (by simp only[hs,hcs,ne_eq,not_true_eq_false,decide_false,Bool.false_or,decide_eq_true_eq];omega)]
        exact g1
      · cases h
    · cases h
  · cases h
theorem places_of {fields:List Field} (h:∀f∈fields,(P.info? f.type).isSome=true):∃places,fields.mapM (fun f=>(P.info? f.type).map fun i=>(f.offset,i.size))=some places∧∀(j:Nat) (f:Field) i,fields[j]? = some f→P.info? f.type=some i→places[j]? = some (f.offset,i.size):=by
 induction fields with
 | nil=>exact⟨[],by simp,fun j f i hj=>by simp at hj⟩
 | cons f fs ih=>
  obtain⟨i,hi⟩:=Option.isSome_iff_exists.1 (h f (by simp))
  obtain⟨ps,h1,h2⟩:=ih (fun g hg=>h g (by simp[hg]))
  refine⟨(f.offset,i.size)::ps,by simp[List.mapM_cons,hi,h1],fun j g k hj hk => ?_⟩
  cases j with
  | zero=>simp at hj;subst hj;rw[hi] at hk;cases hk;rfl
  | succ j=>simp at hj ⊢;exact h2 j g k hj hk
theorem zero_of (hT:TabOk P T) {t:TypeId} (hd:(T.at_ t).d≠.unk):∃f z,P.info? t=some f∧f.zero=some z∧f.size=(T.at_ t).size∧∀S w β H,VLs S w β H (T.at_ t).zero z.cells.toList:=by
 obtain⟨f,h1,h2,_,z,h3,h4⟩:=(hT t hd).info
 exact⟨f,z,h1,h3,h2,h4⟩
theorem built_of (hT:TabOk P T) (hev:∀x,VL S w β H (ev x) [a.eval x]) {t:TypeId} {ps:List (Nat×Operand)} {l':List AV} (h:fillL T (T.at_ t) (T.at_ t).zero (ps.map fun p=>(p.1,ev p.2))=some l') (hd:(∃fs,(T.at_ t).d=.struct fs)∨∃n e,(T.at_ t).d=.array n e) :
 ∃cs',P.built t (ps.map fun p=>(p.1,a.eval p.2))=some cs'∧VLs S w β H l' cs'.toList:=by
 rcases hd with ⟨fs,hd⟩ | ⟨n,e,hd⟩
 · obtain⟨f,z,h1,h3,h2,h4⟩:=zero_of hT (t:=t) (by rw[hd];simp)
   have hdesc:=(hT t (by rw[hd];simp)).desc
   unfold DescOk at hdesc
   rw[hd] at hdesc
   obtain⟨fields,g1,g2,g3⟩:=hdesc
   obtain⟨places,k1,k2⟩:=places_of g3
   have hp:∀f q,partOf T (T.at_ t) f=some q→places.toArray[f]? = some q:=by
    intro f q hq
    obtain⟨off,n⟩:=q
    obtain⟨t',m1,m2,m3⟩:=partOf_struct hd hq
    have m4:(fields.toList.map (fun f=>(f.offset,f.type)))[f]? = some (off,t'):=by rw[g2];exact m1
    rw[List.getElem?_map] at m4
    obtain⟨fl,m5,m6⟩:=Option.map_eq_some_iff.1 m4
    simp only[Prod.mk.injEq] at m6
    obtain⟨i,n1,n2,_⟩:=(hT t' m3).info
    have:=k2 f fl i m5 (by rw[m6.2];exact n1)
    rw[m6.1,n2,m2] at this
    simpa using this
   obtain⟨cs',q1,q2⟩:=fill_of (T:=T) hp hev ps _ l' z.cells (h4 _ _ _ _) h
   refine⟨cs',?_,q2⟩
   simp only[Program.built,h1,g1,h3,k1]
   exact q1
 · obtain⟨f,z,h1,h3,h2,h4⟩:=zero_of hT (t:=t) (by rw[hd];simp)
   have hdesc:=(hT t (by rw[hd];simp)).desc
   unfold DescOk at hdesc
   rw[hd] at hdesc
   obtain⟨hu,hi⟩:=hdesc
   obtain⟨ie,n1⟩:=Option.isSome_iff_exists.1 hi
   have hp:∀f q,partOf T (T.at_ t) f=some q→(some (f*ie.size,ie.size):Option (Nat×Nat))=some q:=by
    intro f q hq
    simp only[partOf,hd] at hq
    split at hq
    · cases hq
    · rename_i hk
      obtain⟨ie',m1,m2,_⟩:=(hT e (fun h=>hk h)).info
      rw[n1] at m1
      cases m1
      split at hq
      · cases hq;rw[m2]
      · cases hq
   obtain⟨cs',q1,q2⟩:=fill_of (T:=T) (place:=fun i=>some (i*ie.size,ie.size)) hp hev ps _ l' z.cells (h4 _ _ _ _) h
   refine⟨cs',?_,q2⟩
   simp only[Program.built,h1,hu,h3,n1]
   exact q1
theorem s_build {t:TypeId} {ps:Array (Nat×Operand)} (ho:o.op=.build t ps) (c:Cx P T M S0 w0 S β H w a ev nid r) (hs:semOp T env ev H nid o=some r):Goes P M S0 w0 S β H w o a r:=by
 simp only[semOp,ho] at hs
 split at hs
 · rename_i hg
   split at hs
   · rename_i cs hf
     simp only[ok,Option.some.injEq] at hs
     have hd:(∃fs,(T.at_ t).d=.struct fs)∨∃n e,(T.at_ t).d=.array n e:=by
      cases hd:(T.at_ t).d<;>rw[hd] at hg<;>simp[TD.isAgg] at hg
      · exact .inl ⟨_,rfl⟩
      · exact .inr ⟨_,_,rfl⟩
     obtain⟨cs',g1,g2⟩:=built_of c.hT c.hev (ps:=ps.toList) hf hd
     subst hs
     refine goes_same (u:=.agg cs') c rfl (s:=Instr.build t (ps.map fun p=>(p.1,a.eval p.2))) (by simp only[execOp,ho]) (run_build w t _ cs' ?_) ?_
     · rw[Array.toList_map];exact g1
     · exact⟨cs'.toList,by simp,VLs.of_list _ _ g2⟩
   · cases hs
 · cases hs
theorem s_alloc {t:TypeId} (ho:o.op=.alloc t) (c:Cx P T M S0 w0 S β H w a ev nid r) (hs:semOp T env ev H nid o=some r):Goes P M S0 w0 S β H w o a r:=by
 simp only[semOp,ho] at hs
 have main:(T.at_ t).d≠.unk→some (⟨[],.ptr nid 0,[(nid,.cells t (T.at_ t).zero)]⟩:Res)=some r→Goes P M S0 w0 S β H w o a r:=by
  intro hd hs
  simp only[Option.some.injEq] at hs
  subst hs
  obtain⟨f,z,h1,h3,h2,h4⟩:=zero_of c.hT hd
  have hn:H nid=.none:=c.fresh (by simp)
  obtain⟨hr,hx⟩:=c.rel.new nid hn z.cells t 0 (.cells t (T.at_ t).zero) (fun β' H' w' _ hh=>⟨_,z.cells.toList,rfl,by simpa using hh,h4 _ _ _ _⟩)
  intro next Q hnx
  refine wp_val (v:=.pointer (some ⟨w.heap.size,0,none⟩)) (s:=Instr.alloc t true (.tuple #[])) (by simp only[execOp,ho]) ?_ (hnx _ _ _ _ hr ⟨_,rfl,?_⟩ hx)
  · simp only[Instr.alloc,zeroValue,typeInfo,newVar,newRow,newObj]
    simp[h1,h3,Sem.run,program]
  · simp only[leaf,updH_one]
    exact⟨_,by rw[setC_one],rfl⟩
 split at hs
 · cases hs
 · rename_i hd
   exact main (fun h=>hd h) hs
theorem s_box {t:TypeId} {x:Operand} (ho:o.op=.box t x) (c:Cx P T M S0 w0 S β H w a ev nid r) (hs:semOp T env ev H nid o=some r):Goes P M S0 w0 S β H w o a r:=by
 simp only[semOp,ho] at hs
 split at hs
 · rename_i l hc
   simp only[Option.some.injEq] at hs
   subst hs
   obtain⟨hv,_⟩:=VL.cells_of hc (c.hev x)
   have hn:H nid=.none:=c.fresh (by simp)
   obtain⟨hr,hx⟩:=c.rel.new nid hn (a.eval x).cells t 0 (.cells t l) (fun β' H' w' he hh=>⟨_,(a.eval x).cells.toList,rfl,by simpa using hh,VLs.ext he _ _ hv⟩)
   intro next Q hnx
   refine wp_val (v:=.pointer (some ⟨w.heap.size,0,none⟩)) (s:=Instr.box t (a.eval x)) (by simp only[execOp,ho]) ?_ (hnx _ _ _ _ hr ⟨_,rfl,?_⟩ hx)
   · simp only[Instr.box,newVar,newRow,newObj]
     simp[Sem.run]
   · simp only[leaf,updH_one]
     exact⟨_,by rw[setC_one],rfl⟩
 · cases hs
end
end Go.Proofs.YtkpjcmiijlpcaaaGreat.Aw
namespace Go.Proofs.YtkpjcmiijlpcaaaGreat.Aw
open Go
section
variable {P:Program} {T:Tab} {env:Env} {M S0:Nat→Prop} {w0:World} {S:Nat→Prop} {β:Nat→Cr} {H:Nat→Ob} {w:World} {o:Oper} {a:Act} {ev:Operand→AV} {nid:Nat} {r:Res}
theorem known_d {i:TI} (h:i.known=true):i.d≠.unk:=by
 intro e
 simp[TI.known,e] at h
theorem rowV_some {c:Cr} {g n:Nat} (h:c.g=some g):rowV c n=.slice (some ⟨g,0,none⟩) n c.cap:=by unfold rowV;rw[h]
theorem run_indexAddr_slice {t e:TypeId} (hT:TabOk P T) (hd:(T.at_ t).d=.slice e) (he:(T.at_ e).d≠.unk) (ad:Addr) (n cap:Nat) (k:IntKind) (j:Int) (h0:0≤j) (h1:j<(n:Int)) :
 (Instr.indexAt t (.slice (some ad) n cap) (.int k j)).run P w=.ok (.pointer (some (ad.add (j.toNat*(T.at_ e).size)))) w:=by
 have h:=(hT t (by rw[hd];simp)).desc
 unfold DescOk at h
 rw[hd] at h
 have hel:P.elem t=e:=by simp[Program.elem,h]
 rw[run_indexAt_slice (P:=P) w t ad n cap k j (by rw[hel];exact h),if_pos ⟨h0,h1⟩,hel,run_sizeOf hT he]
 rfl
theorem run_indexAddr_array {t e:TypeId} {n:Nat} (hT:TabOk P T) (hd:(T.at_ t).d=.array n e) (he:(T.at_ e).d≠.unk) (ad:Addr) (k:IntKind) (j:Int) (h0:0≤j) (h1:j<(n:Int)) :
 (Instr.indexAt t (.pointer (some ad)) (.int k j)).run P w=.ok (.pointer (some (ad.add (j.toNat*(T.at_ e).size)))) w:=by
 have h:=(hT t (by rw[hd];simp)).desc
 unfold DescOk at h
 rw[hd] at h
 have hel:P.elem t=e:=by simp[Program.elem,h.1]
 have hn:P.arrayLen t=n:=by simp[Program.arrayLen,h.1]
 rw[run_indexAt_array (P:=P) w t ad k j (by rw[hel,hn];exact h.1),hn,if_pos ⟨h0,h1⟩,hel,run_sizeOf hT he]
 rfl
theorem DR.list_at {e:TypeId} {t:Ty} {xs:List t.den} {u:Value} (h:DR S w (.list e t) xs [u]) (hs:0<t.size) (hx:xs≠[]):∃ad n c es,u=.slice (some ad) n c∧n=xs.length∧n≤c∧Cat (DR S w t) xs es∧Rd S w (some ad) es:=by
 obtain⟨ao,n,c,es,e1,e2,e3,e4,e5,_⟩:=h
 cases e1
 have hl:=Cat.length (DR.length t) _ _ e4
 have hpos:0<es.length:=by
  rw[hl]
  exact Nat.mul_pos (List.length_pos_iff.2 hx) hs
 obtain⟨ad,e6,_⟩:=e5 0 es[0] (List.getElem?_eq_getElem hpos)
 subst e6
 exact⟨ad,n,c,es,rfl,e2,e3,e4,e5⟩
theorem s_indexAddr {t:TypeId} {x i:Operand} (ho:o.op=.indexAddr t x i) (c:Cx P T M S0 w0 S β H w a ev nid r) (hs:semOp T env ev H nid o=some r):Goes P M S0 w0 S β H w o a r:=by
 simp only[semOp,ho] at hs
 have hx:=c.hev x
 have hi:=c.hev i
 have key:∀(v:AV) (gs:List Prop) (u:Value),(Instr.indexAt t (a.eval x) (a.eval i)).run P w=.ok u w→VL S w β H v [u]→r=⟨gs,v,[]⟩→Goes P M S0 w0 S β H w o a r:=by
  intro v gs u hr hv e
  subst e
  exact goes_same (u:=u) c rfl (s:=Instr.indexAt t (a.eval x) (a.eval i)) (by simp only[execOp,ho]) hr hv
 split at hs
 · rename_i n e k j hd ei
   rw[ei] at hi
   have hi:=VL.int hi
   split at hs
   rotate_left
   · cases hs
   · rename_i hsz
     have he:(T.at_ e).d≠.unk:=known_d hsz
     split at hs
     · rename_i k' off ex
       rw[ex] at hx
       simp only[okIf,Option.some.injEq] at hs
       have g0:=c.hgs (0≤j) (by rw[←hs];simp)
       have g1:=c.hgs (j<(n:Int)) (by rw[←hs];simp)
       obtain⟨u,e1,hl⟩:=hx
       cases e1
       simp only[leaf] at hl
       split at hl
       · rename_i hk
         obtain⟨g,hg,hv⟩:=hl
         refine key (.ptr k' (off+j.toNat*(T.at_ e).size)) _ (.pointer (some ((⟨g,off,none⟩:Addr).add (j.toNat*(T.at_ e).size)))) ?_ ⟨_,rfl,?_⟩ hs.symm
         · rw[hv,hi];exact run_indexAddr_array c.hT hd he _ _ _ g0 g1
         · simp only[leaf,hk]
           exact⟨g,hg,by rw[add_lit]⟩
       · rename_i hk
         obtain⟨ad,hv⟩:=hl
         refine key (.ptr k' (off+j.toNat*(T.at_ e).size)) _ (.pointer (some (ad.add (j.toNat*(T.at_ e).size)))) ?_ ⟨_,rfl,?_⟩ hs.symm
         · rw[hv,hi];exact run_indexAddr_array c.hT hd he _ _ _ g0 g1
         · simp only[leaf,hk]
           exact⟨_,rfl⟩
       · exact hl.elim
     · rename_i k' i' off ex
       rw[ex] at hx
       simp only[okIf,Option.some.injEq] at hs
       have g0:=c.hgs (0≤j) (by rw[←hs];simp)
       have g1:=c.hgs (j<(n:Int)) (by rw[←hs];simp)
       obtain⟨u,e1,hl⟩:=hx
       cases e1
       simp only[leaf] at hl
       split at hl
       · rename_i el ty xs hk
         obtain⟨g,hg,q0,q1,hv⟩:=hl
         refine key (.rptr k' i' (off+j.toNat*(T.at_ e).size)) _ (.pointer (some (((⟨g,0,none⟩:Addr).add (i'.toNat*ty.size+off)).add (j.toNat*(T.at_ e).size)))) ?_ ⟨_,rfl,?_⟩ hs.symm
         · rw[hv,hi];exact run_indexAddr_array c.hT hd he _ _ _ g0 g1
         · simp only[leaf,hk]
           exact⟨g,hg,q0,q1,by rw[add_add,Nat.add_assoc]⟩
       · rename_i el ty xs hk
         obtain⟨g,hg,q0,q1,hv⟩:=hl
         refine key (.rptr k' i' (off+j.toNat*(T.at_ e).size)) _ (.pointer (some (((⟨g,0,none⟩:Addr).add (i'.toNat*ty.size+off)).add (j.toNat*(T.at_ e).size)))) ?_ ⟨_,rfl,?_⟩ hs.symm
         · rw[hv,hi];exact run_indexAddr_array c.hT hd he _ _ _ g0 g1
         · simp only[leaf,hk]
           exact⟨g,hg,q0,q1,by rw[add_add,Nat.add_assoc]⟩
       · rename_i el ty xs _ _ hk
         obtain⟨g,hg,q0,q1,hv⟩:=hl
         refine key (.rptr k' i' (off+j.toNat*(T.at_ e).size)) _ (.pointer (some (((⟨g,0,none⟩:Addr).add (i'.toNat*ty.size+off)).add (j.toNat*(T.at_ e).size)))) ?_ ⟨_,rfl,?_⟩ hs.symm
         · rw[hv,hi];exact run_indexAddr_array c.hT hd he _ _ _ g0 g1
         · simp only[leaf,hk]
           exact⟨g,hg,q0,q1,by rw[add_add,Nat.add_assoc]⟩
       · rename_i hk
         obtain⟨ad,hv⟩:=hl
         refine key (.rptr k' i' (off+j.toNat*(T.at_ e).size)) _ (.pointer (some (ad.add (j.toNat*(T.at_ e).size)))) ?_ ⟨_,rfl,?_⟩ hs.symm
         · rw[hv,hi];exact run_indexAddr_array c.hT hd he _ _ _ g0 g1
         · simp only[leaf,hk]
           exact⟨_,rfl⟩
       · exact hl.elim
     · rename_i e' t' xs i' off ex
       rw[ex] at hx
       simp only[okIf,Option.some.injEq] at hs
       obtain⟨u,e1,hl⟩:=hx
       cases e1
       obtain⟨q0,q1,ad,es,hcat,hrd,hv⟩:=hl
       have g0:=c.hgs (0≤j) (by rw[←hs];simp)
       have g1:=c.hgs (j<(n:Int)) (by rw[←hs];simp)
       refine key (.lptr e' t' xs i' (off+j.toNat*(T.at_ e).size)) _ (.pointer (some (ad.add (i'.toNat*t'.size+(off+j.toNat*(T.at_ e).size))))) ?_ ⟨_,rfl,q0,q1,ad,es,hcat,hrd,rfl⟩ hs.symm
       rw[hv,hi,run_indexAddr_array c.hT hd he _ _ _ g0 g1,add_add,Nat.add_assoc]
     · cases hs
 · rename_i e k j hd ei
   rw[ei] at hi
   have hi:=VL.int hi
   split at hs
   · rename_i k' ex
     rw[ex] at hx
     split at hs
     · rename_i el ty xs hk
       split at hs
       · rename_i hsz
         have he:(T.at_ e).d≠.unk:=known_d hsz.1
         simp only[okIf,Option.some.injEq] at hs
         obtain⟨u,e1,hl⟩:=hx
         cases e1
         simp only[leaf,hk] at hl
         have g0:=c.hgs (0≤j) (by rw[←hs];simp)
         have g1:=c.hgs (j<(xs.length:Int)) (by rw[←hs];simp)
         have hob:=c.rel.ob k'
         rw[hk] at hob
         rcases hob with ⟨_,e2⟩ | ⟨g,cur,e2,_⟩
         · subst e2;simp at g1;omega
         · refine key (.rptr k' j 0) _ (.pointer (some ((⟨g,0,none⟩:Addr).add (j.toNat*(T.at_ e).size)))) ?_ ⟨_,rfl,?_⟩ hs.symm
           · rw[hl,hi,rowV_some e2];exact run_indexAddr_slice c.hT hd he _ _ _ _ _ g0 g1
           · simp only[leaf,hk]
             exact⟨g,e2,g0,g1,by rw[hsz.2.1,Nat.add_zero]⟩
       · cases hs
     · rename_i el ty xs hk
       split at hs
       · rename_i hsz
         have he:(T.at_ e).d≠.unk:=known_d hsz.1
         simp only[okIf,Option.some.injEq] at hs
         obtain⟨u,e1,hl⟩:=hx
         cases e1
         simp only[leaf,hk] at hl
         have g0:=c.hgs (0≤j) (by rw[←hs];simp)
         have g1:=c.hgs (j<(xs.length:Int)) (by rw[←hs];simp)
         have hob:=c.rel.ob k'
         rw[hk] at hob
         rcases hob with ⟨_,e2,_⟩ | ⟨g,cur,e2,_⟩
         · subst e2;simp at g1;omega
         · refine key (.rptr k' j 0) _ (.pointer (some ((⟨g,0,none⟩:Addr).add (j.toNat*(T.at_ e).size)))) ?_ ⟨_,rfl,?_⟩ hs.symm
           · rw[hl,hi,rowV_some e2];exact run_indexAddr_slice c.hT hd he _ _ _ _ _ g0 g1
           · simp only[leaf,hk]
             exact⟨g,e2,g0,g1,by rw[hsz.2.1,Nat.add_zero]⟩
       · cases hs
     · rename_i el ty xs _ _ hk
       split at hs
       · rename_i hsz
         have he:(T.at_ e).d≠.unk:=known_d hsz.1
         simp only[okIf,Option.some.injEq] at hs
         obtain⟨u,e1,hl⟩:=hx
         cases e1
         simp only[leaf,hk] at hl
         have g0:=c.hgs (0≤j) (by rw[←hs];simp)
         have g1:=c.hgs (j<(xs.length:Int)) (by rw[←hs];simp)
         have hob:=c.rel.ob k'
         rw[hk] at hob
         obtain⟨g,cur,e2,_⟩:=hob
         refine key (.rptr k' j 0) _ (.pointer (some ((⟨g,0,none⟩:Addr).add (j.toNat*(T.at_ e).size)))) ?_ ⟨_,rfl,?_⟩ hs.symm
         · rw[hl,hi,rowV_some e2];exact run_indexAddr_slice c.hT hd he _ _ _ _ _ g0 g1
         · simp only[leaf,hk]
           exact⟨g,e2,g0,g1,by rw[hsz.2.1,Nat.add_zero]⟩
       · cases hs
     · cases hs
   · rename_i e' ty xs ex
     rw[ex] at hx
     split at hs
     · rename_i hsz
       have he:(T.at_ e).d≠.unk:=known_d hsz.1
       simp only[okIf,Option.some.injEq] at hs
       obtain⟨u,e1,hl⟩:=hx
       cases e1
       have g0:=c.hgs (0≤j) (by rw[←hs];simp)
       have g1:=c.hgs (j<(xs.length:Int)) (by rw[←hs];simp)
       obtain⟨ad,n,cc,es,e2,e3,e4,e5,e6⟩:=DR.list_at (e:=e') hl hsz.2.2 (by intro h;rw[h] at g1;simp at g1;omega)
       refine key (.lptr e' ty xs j 0) _ (.pointer (some (ad.add (j.toNat*ty.size+0)))) ?_ ⟨_,rfl,g0,g1,ad,es,e5,e6,rfl⟩ hs.symm
       rw[e2,hi,run_indexAddr_slice c.hT hd he _ _ _ _ _ g0 (by rw[e3];exact g1),hsz.2.1,Nat.add_zero]
     · cases hs
   · rename_i k' lo n e' ty ex
     rw[ex] at hx
     obtain⟨u,e1,hl⟩:=hx
     cases e1
     split at hs
     · rename_i el ty' xs hk
       split at hs
       rotate_left
       · cases hs
       rename_i hsz
       obtain⟨hk1,hk2,rfl,hk3⟩:=hsz
       have he:(T.at_ e).d≠.unk:=known_d hk1
       simp only[okIf,Option.some.injEq] at hs
       simp only[leaf,hk] at hl
       obtain⟨ao,cc,hv,h0,h1,h2,h3⟩:=hl
       have g0:=c.hgs (0≤j) (by rw[←hs];simp)
       have g1:=c.hgs (j<(n:Int)) (by rw[←hs];simp)
       obtain⟨g,q1,q2⟩:=h2 (by omega)
       refine key (.rptr k' (lo+j) 0) _ (.pointer (some ((⟨g,lo*ty'.size,none⟩:Addr).add (j.toNat*(T.at_ e).size)))) ?_ ⟨_,rfl,?_⟩ hs.symm
       · rw[hv,hi,q2];exact run_indexAddr_slice c.hT hd he _ _ _ _ _ g0 g1
       · simp only[leaf,hk]
         refine⟨g,q1,by omega,by omega,?_⟩
         rw[add_lit,add_lit,hk2]
         have:((lo:Int)+j).toNat=lo+j.toNat:=by omega
         rw[this,Nat.add_mul]
         simp
     · rename_i el cs hk
       split at hs
       rotate_left
       · cases hs
       rename_i hsz
       have he:(T.at_ e).d≠.unk:=known_d hsz.1
       simp only[okIf,Option.some.injEq] at hs
       simp only[leaf,hk] at hl
       obtain⟨ao,cc,hv,h0,h2,h3⟩:=hl
       have g0:=c.hgs (0≤j) (by rw[←hs];simp)
       have g1:=c.hgs (j<(n:Int)) (by rw[←hs];simp)
       obtain⟨g,q1,q2⟩:=h2 (by omega)
       refine key (.ptr k' (lo+j.toNat*ty.size)) _ (.pointer (some ((⟨g,lo,none⟩:Addr).add (j.toNat*(T.at_ e).size)))) ?_ ⟨_,rfl,?_⟩ hs.symm
       · rw[hv,hi,q2];exact run_indexAddr_slice c.hT hd he _ _ _ _ _ g0 g1
       · simp only[leaf,hk]
         exact⟨g,q1,by rw[add_lit,hsz.2]⟩
     · cases hs
   · rename_i k' ex
     rw[ex] at hx
     obtain⟨u,e1,hl⟩:=hx
     cases e1
     split at hs
     · rename_i el cs hk
       split at hs
       rotate_left
       · cases hs
       rename_i hsz
       have he:(T.at_ e).d≠.unk:=known_d hsz.1
       simp only[okIf,Option.some.injEq] at hs
       simp only[leaf,hk] at hl
       have g0:=c.hgs (0≤j) (by rw[←hs];simp)
       have g1:=c.hgs (j<(cs.length:Int)) (by rw[←hs];simp)
       have hob:=c.rel.ob k'
       rw[hk] at hob
       rcases hob with ⟨_,e2⟩ | ⟨g,cur,e2,_⟩
       · subst e2;simp at g1;omega
       · refine key (.pptr k' j.toNat) _ (.pointer (some ((⟨g,0,none⟩:Addr).add (j.toNat*(T.at_ e).size)))) ?_ ⟨_,rfl,?_⟩ hs.symm
         · rw[hl,hi,rowV_some e2];exact run_indexAddr_slice c.hT hd he _ _ _ _ _ g0 g1
         · simp only[leaf,hk]
           exact⟨g,e2,by omega,by rw[add_lit,hsz.2];simp⟩
     · cases hs
   · cases hs
 · cases hs
end
end Go.Proofs.YtkpjcmiijlpcaaaGreat.Aw
namespace Go.Proofs.YtkpjcmiijlpcaaaGreat.Aw
open Go
section
variable {P:Program} {T:Tab} {env:Env} {M S0:Nat→Prop} {w0:World} {S:Nat→Prop} {β:Nat→Cr} {H:Nat→Ob} {w:World} {o:Oper} {a:Act} {ev:Operand→AV} {nid:Nat} {r:Res}
theorem s_index {t:TypeId} {x i:Operand} (ho:o.op=.index t x i) (c:Cx P T M S0 w0 S β H w a ev nid r) (hs:semOp T env ev H nid o=some r):Goes P M S0 w0 S β H w o a r:=by
 simp only[semOp,ho] at hs
 have hx:=c.hev x
 have hi:=c.hev i
 split at hs
 · rename_i n e cc k j hd ex ei
   split at hs
   · rename_i off m hp
     split at hs
     · rename_i hc
       obtain⟨v,h1,h2⟩:=Option.bind_eq_some_iff.1 hs
       simp only[ok,Option.some.injEq] at h2
       rw[ex] at hx
       rw[ei] at hi
       have hi:=VL.int hi
       obtain⟨cs,e1,hcs⟩:=VL.agg hx
       have hv:=VL.list_of cc cs hc.1 hcs
       simp only[partOf,hd] at hp
       split at hp
       · cases hp
       · rename_i hk
         split at hp
         · simp only[Option.some.injEq,Prod.mk.injEq] at hp
           obtain⟨q1,q2⟩:=hp
           subst q1
           subst q2
           obtain⟨u,hu,hvu⟩:=part_of c.hT (cs:=cs.toArray) (by simpa using hv) h1
           subst h2
           refine goes_same (u:=u) c rfl (s:=Instr.index t (a.eval x) (a.eval i)) (by simp only[execOp,ho]) ?_ hvu
           have h:=(c.hT t (by rw[hd];simp)).desc
           unfold DescOk at h
           rw[hd] at h
           rw[e1,hi]
           simp only[Instr.index,asIntOf,Sem.run_bind,Sem.run_pure,Result.andThen_ok,run_underlying h.1]
           rw[if_pos ⟨hc.2.1,hc.2.2.1⟩]
           simp only[Sem.run_bind,run_sizeOf c.hT (fun h=>hk h),Result.andThen_ok]
           exact hu
         · cases hp
     · cases hs
   · cases hs
 · rename_i b k j hd ex ei
   split at hs
   rotate_left
   · cases hs
   rename_i hty
   simp only[okIf,Option.some.injEq] at hs
   have g0:=c.hgs (0≤j) (by rw[←hs];simp)
   have g1:=c.hgs (j<(b.size:Int)) (by rw[←hs];simp)
   rw[ex] at hx
   rw[ei] at hi
   have hi:=VL.int hi
   obtain⟨u,e1,hl⟩:=hx
   simp only[List.cons.injEq,and_true] at e1
   have hl:u=.string b:=hl
   have h:=(c.hT t (by rw[hd];simp)).desc
   unfold DescOk at h
   rw[hd] at h
   obtain⟨d,h1,_,_,_,h5,_⟩:=h
   have hu:P.underlying t=some .string:=by rw[h1,h5 hty]
   subst hs
   refine goes_same (u:=.int .u8 (strAt b j.toNat)) c rfl (s:=Instr.index t (a.eval x) (a.eval i)) (by simp only[execOp,ho]) ?_ ⟨_,rfl,rfl⟩
   rw[e1,hl,hi,run_index_string w t b k j hu,dif_pos ⟨g0,g1⟩]
   unfold strAt
   rw[dif_pos (show j.toNat<b.size by omega)]
 · cases hs
theorem store_of {t:TypeId} (hT:TabOk P T) {g off:Nat} {cur:Array Value} {e:TypeId} {v:Value} (hg:w.heap[g]? = some (.cells cur e (0,0))) (hk:(T.at_ t).d≠.unk) (hl:v.cells.toList.length=(T.at_ t).size) (ho:off+v.cells.toList.length≤cur.size) (h1:∀u∈v.cells.toList,u.oneCell'=true) :
 (storeVar t ⟨g,off,none⟩ v).run P w=.ok () (w.setRow g (cur.toList.take off++v.cells.toList++cur.toList.drop (off+v.cells.toList.length)).toArray):=by
 have hsz:=run_sizeOf hT hk w
 have hst:=run_storeCells_at P g off e v.cells.toList 0 cur w hg (by simpa using ho) h1
 simp only[storeVar,Sem.run_bind,hsz,Result.andThen_ok]
 rw[if_neg (by rw[←hl];simp)]
 simpa using hst
theorem size_setRow (w:World) (g:Nat) (cs:Array Value):(w.setRow g cs).heap.size=w.heap.size:=by simp[World.setRow]
theorem Cat.set {α:Type} {R:α→List Value→Prop} {n:Nat} (hR:∀x cs,R x cs→cs.length=n):∀(xs:List α) cs (i:Nat) (y:α) (us:List Value),Cat R xs cs→i<xs.length→R y us→Cat R (xs.set i y) (cs.take (i*n)++us++cs.drop (i*n+us.length))
 | [],_,i,_,_,_,hi,_=>by simp at hi
 | x::xs,_,0,y,us,⟨c1,c2,e,h1,h2⟩,_,hy=>by
  have l1:=hR _ _ h1
  have l2:=hR _ _ hy
  refine⟨us,c2,?_,hy,h2⟩
  subst e
  rw[Nat.zero_mul,List.take_zero,List.nil_append,Nat.zero_add,l2,←l1,List.drop_left]
 | x::xs,_,i+1,y,us,⟨c1,c2,e,h1,h2⟩,hi,hy=>by
  have l1:=hR _ _ h1
  have ih:=Cat.set hR xs c2 i y us h2 (by simpa using hi) hy
  refine⟨c1,_,?_,h1,ih⟩
  subst e
  have e1:(i+1)*n=c1.length+i*n:=by rw[Nat.add_mul,l1];omega
  rw[e1,List.take_append,List.drop_append]
  have t1:c1.take (c1.length+i*n)=c1:=List.take_of_length_le (by omega)
  have t2:c1.drop (c1.length+i*n+us.length)=[]:=List.drop_of_length_le (by omega)
  rw[t1,t2,show c1.length+i*n-c1.length=i*n by omega,show c1.length+i*n+us.length-c1.length=i*n+us.length by omega]
  simp
theorem splice (cl us:List Value) (m s N off:Nat) (h1:off+us.length≤s) (h2:m+s≤N) (h3:N≤cl.length) :
 (cl.take (m+off)++us++cl.drop (m+off+us.length)).take N=(cl.take N).take m++((((cl.take N).drop m).take s).take off++us++(((cl.take N).drop m).take s).drop (off+us.length))++(cl.take N).drop (m+s):=by
 apply List.ext_getElem?
 intro j
 simp only[List.getElem?_take,List.getElem?_append,List.length_take,List.length_append,List.getElem?_drop,List.length_drop]
 have e1:min (m+off) cl.length=m+off:=by omega
 have e2:min N cl.length=N:=by omega
 have e3:min m N=m:=by omega
 have e4:min s (N-m)=s:=by omega
 have e5:min off s=off:=by omega
 simp only[e1,e2,e3,e4,e5]
 by_cases c1:j<N
 · by_cases c2:j<m
   · grind
   · by_cases c3:j<m+off
     · grind
     · by_cases c4:j<m+off+us.length
       · grind
       · by_cases c5:j<m+s
         · grind
         · grind
 · grind
theorem splice2 {cur c1 c2 c3 us:List Value} {n m s off:Nat} (h:cur.take n=c1++c2++c3) (h1:c1.length=m) (h2:c2.length=s) (h3:off+us.length≤s) :
 (cur.take (m+off)++us++cur.drop (m+off+us.length)).take n=(c1++(c2.take off++us++c2.drop (off+us.length))++c3).take n:=by
 have hc:cur=(c1++c2++c3)++cur.drop n:=by rw[←h,List.take_append_drop]
 have hn:cur.take (m+off)=c1++c2.take off:=by
  conv=>lhs;rw[hc]
  rw[List.append_assoc,List.append_assoc,List.take_append,h1,List.take_of_length_le (by omega),Nat.add_sub_cancel_left,List.take_append,show off-c2.length=0 by omega]
  simp
 have hd:cur.drop (m+off+us.length)=c2.drop (off+us.length)++c3++cur.drop n:=by
  conv=>lhs;rw[hc]
  rw[List.append_assoc,List.append_assoc,List.drop_append,h1,List.drop_eq_nil_of_le (by omega),show m+off+us.length-m=off+us.length by omega,List.drop_append,show off+us.length-c2.length=0 by omega]
  simp
 rw[hn,hd]
 have e1:c1++c2.take off++us++(c2.drop (off+us.length)++c3++cur.drop n)=(c1++(c2.take off++us++c2.drop (off+us.length))++c3)++cur.drop n:=by simp
 rw[e1]
 have hl:(c1++(c2.take off++us++c2.drop (off+us.length))++c3).length=(c1++c2++c3).length:=by simp;omega
 have hl2:(c1++c2++c3).length=min n cur.length:=by rw[←h,List.length_take]
 by_cases hle:n≤cur.length
 · rw[List.take_append,show n-(c1++(c2.take off++us++c2.drop (off+us.length))++c3).length=0 by omega,List.take_zero,List.append_nil]
 · have hd0:cur.drop n=[]:=List.drop_eq_nil_of_le (by omega)
   rw[hd0,List.append_nil]
theorem s_storeO {k:Nat} {i:Int} {off:Nat} {t:TypeId} {x y:Operand} {e:TypeId} {ty:Ty} {xs:List ty.den} {l:List AV} {z:ty.den} (ho:o.op=.store t x y) (c:Cx P T M S0 w0 S β H w a ev nid r) (hex:ev x=.rptr k i off) (hk:H k=.orow e ty xs) (hc:(ev y).cells? = some l)
 (hsz:(T.at_ t).known=true∧l.length=(T.at_ t).size∧off+l.length≤ty.size) (hz:updD ty (xs.getD i.toNat ty.zero) off l=some z) (hs:r=⟨[],.undef,[(k,.orow e ty (xs.set i.toNat z))]⟩):Goes P M S0 w0 S β H w o a r:=by
 subst hs
 have hx:=c.hev x
 rw[hex] at hx
 obtain⟨v0,ev0,hl⟩:=hx
 simp only[List.cons.injEq,and_true] at ev0
 obtain⟨g,cur,c1,c2,c3,F1,F2,F3,hg,h0,h1,hv,heap,q3,q4,q5,r1,r2,r3,r4,r5,r6,r7⟩:=orow_at c.rel hk hl
 obtain⟨hvl,h1c⟩:=VL.cells_of hc (c.hev y)
 have n1:=VLs.length _ _ hvl
 have hlt:i.toNat<xs.length:=by omega
 have hupd:=updD_of ty _ z c2 F2 off l _ r5 hvl hz (by rw[n1,r4];exact hsz.2.2)
 have hcat:=r7 z _ _ hupd
 have hmul:i.toNat*ty.size+ty.size≤xs.length*ty.size:=by rw[←Nat.succ_mul];exact Nat.mul_le_mul_right _ hlt
 have hcap:xs.length*ty.size≤(β k).cap*ty.size:=Nat.mul_le_mul_right _ q3
 have hst:=store_of c.hT (t:=t) (off:=i.toNat*ty.size+off) (v:=a.eval y) heap (known_d hsz.1) (by rw[n1];exact hsz.2.1) (by rw[n1,q5];have:=hsz.2.2;omega) h1c
 have hce:=splice2 (us:=(a.eval y).cells.toList) r1 r3 r4 (by rw[n1];exact hsz.2.2)
 have e0:cur.toList.length=cur.size:=Array.length_toList
 have hX:(c1++(c2.take off++(a.eval y).cells.toList++c2.drop (off+(a.eval y).cells.toList.length))++c3).length≤xs.length*ty.size:=by
  have h5:=congrArg List.length r1
  rw[List.length_take,List.length_append,List.length_append] at h5
  rw[List.length_append,List.length_append,List.length_append,List.length_append,List.length_take,List.length_drop,n1]
  have:=hsz.2.2
  omega
 obtain⟨hr,hxt⟩:=c.rel.write k g (by rw[hk];rfl) hg (.orow e ty (xs.set i.toNat z)) (by rw[hk];exact .inr ⟨rfl,rfl,_,.inl rfl,by simp⟩) (w':=w.setRow g (cur.toList.take (i.toNat*ty.size+off)++(a.eval y).cells.toList++cur.toList.drop (i.toNat*ty.size+off+(a.eval y).cells.toList.length)).toArray) rfl rfl rfl (size_setRow _ _ _) (fun b hb=>setRow_other w g b _ hb)
  (fun hxt=>.inr ⟨g,_,hg,setRow_heap w g _ _ _ _ heap,by simpa using q3,q4,by
   rw[←q5]
   show (_:List Value).length=_
   rw[List.length_append,List.length_append,List.length_take,List.length_drop,n1];have:=hsz.2.2;omega,by
   rw[List.length_set,hce,List.take_of_length_le hX,r2]
   exact CatO.mono hxt.hS _ _ _ (fun b hb=>setRow_other w g b _ (fun q=>by subst q;exact (List.nodup_cons.1 r6).1 hb)) hcat,by rw[r2];exact r6⟩)
 intro next Q hn
 refine wp_unit (s:=Instr.storeAt t (a.eval x) (a.eval y)) (by simp only[execOp,ho]) ?_ (hn undef _ _ _ hr ⟨_,rfl,trivial⟩ hxt)
 rw[ev0,hv]
 simp only[Instr.storeAt,Instr.sureAddr,Sem.run_bind,Sem.run_pure,Result.andThen_ok]
 exact hst
theorem putOl_get {e':TypeId} {t':Ty} {ys:List t'.den}:∀(t:Ty) (x:t.den) (off:Nat) (y:t.den),putOl e' t' ys t x off=some y→∃zs,getOl t x off=some ⟨e',t',zs⟩:=by
 intro t
 induction t with
 | pair a b iha ihb=>
  intro x off y h
  simp only[putOl] at h
  simp only[getOl]
  cases hc:off.blt a.size<;>rw[hc] at h<;>simp only[cond_false,cond_true] at h ⊢
  · split at h
    · rename_i z hz;exact ihb _ _ _ hz
    · cases h
  · split at h
    · rename_i z hz;exact iha _ _ _ hz
    · cases h
 | ol e t _=>
  intro x off y h
  cases off with
  | succ n=>simp[putOl] at h
  | zero=>
   simp only[putOl] at h
   split at h
   · rename_i hh
     obtain⟨rfl,rfl⟩:=hh
     exact⟨x,rfl⟩
   · cases h
 | int k=>intro x off y h;cases off<;>cases h
 | bool=>intro x off y h;cases off<;>cases h
 | str=>intro x off y h;cases off<;>cases h
 | list e t _=>intro x off y h;cases off<;>cases h
 | unit=>intro x off y h;cases off<;>cases h
theorem s_give {k j:Nat} {i i0:Int} {off off0:Nat} {t:TypeId} {x y:Operand} {e:TypeId} {ty:Ty} {xs:List ty.den} (ho:o.op=.store t x y) (c:Cx P T M S0 w0 S β H w a ev nid r) (hex:ev x=.rptr k i off) (hk:H k=.hrow e ty xs i0 off0) (hey:ev y=.row j)
 (hs:semGive T k t e ty xs i0 off0 i off j (H j)=some r):Goes P M S0 w0 S β H w o a r:=by
 have hx:=c.hev x
 rw[hex] at hx
 obtain⟨v0,ev0,hl⟩:=hx
 simp only[List.cons.injEq,and_true] at ev0
 have hy:=c.hev y
 rw[hey] at hy
 obtain⟨u,eu,hlu⟩:=hy
 simp only[List.cons.injEq,and_true] at eu
 unfold semGive at hs
 split at hs
 rotate_left
 · cases hs
 rename_i e' t' ys hj
 split at hs
 rotate_left
 · cases hs
 rename_i z hput
 split at hs
 rotate_left
 · cases hs
 rename_i hcond
 obtain⟨hsl,hs1,rfl,hjk⟩:=hcond
 have hsl:=isSl_of hsl
 simp only[Option.some.injEq] at hs
 subst hs
 have hi:=c.hgs (i=i0) (by simp)
 subst hi
 simp only[leaf,hj] at hlu
 simp only[leaf,hk] at hl
 obtain⟨g,hg,h0,h1,hv⟩:=hl
 rw[add_lit,Nat.zero_add] at hv
 have hob:=c.rel.ob k
 rw[hk] at hob
 obtain⟨g',cur,q1,heap,q3,q4,q5,_,_,q6,q7,q8⟩:=hob
 rw[hg] at q1
 cases q1
 have hlt:i.toNat<xs.length:=by omega
 obtain⟨c1,c2,c3,F1,F2,F3,r1,r2,r3,r4,r5⟩:=CatO.split xs _ _ i.toNat hlt q7
 have r6:=DRo.length _ _ _ _ r4
 obtain⟨zs,hget⟩:=putOl_get _ _ _ _ hput
 obtain⟨u0,A1,A2,A3,s1,s2,s3,s4,s5⟩:=ol_of ty _ c2 F2 off e' t' zs r4 hget
 have hmul:i.toNat*ty.size+ty.size≤xs.length*ty.size:=by rw[←Nat.succ_mul];exact Nat.mul_le_mul_right _ hlt
 have hcap:xs.length*ty.size≤(β k).cap*ty.size:=Nat.mul_le_mul_right _ q3
 have e0:cur.toList.length=cur.size:=Array.length_toList
 have hpos:i.toNat*ty.size+off<(cur.toList.take (xs.length*ty.size)).length:=by rw[List.length_take];omega
 have hu0:u0=.slice none 0 0:=by
  have:((cur.toList.take (xs.length*ty.size)).set (i.toNat*ty.size+off) (.slice none 0 0))[i.toNat*ty.size+off]? = some u0:=by
   rw[r1,List.append_assoc,List.getElem?_append_right (by omega),r3,Nat.add_sub_cancel_left,List.getElem?_append_left (by omega)]
   exact s1
  rw[List.getElem?_set_self hpos] at this
  exact (Option.some.inj this).symm
 have hA2:A2=[]:=by
  rcases s4 with ⟨_,_,p3⟩ | ⟨gb,cap,cb,p1,_⟩
  · exact p3
  · rw[hu0] at p1;cases p1
 subst hA2
 have hobj:=c.rel.ob j
 rw[hj] at hobj
 have hjl:(H j).live=true:=by rw[hj];rfl
 have hkl:(H k).live=true:=by rw[hk];rfl
 obtain⟨Fj,f1,f2⟩:∃Fj:List Nat,(∀b,b∈Fj→(β j).has b)∧Fj.Nodup∧DRo S w (.ol e' t') ys [u] Fj:=by
  rcases hobj with ⟨p1,p2⟩ | ⟨gb,cb,p1,p2,p3,p4,p5,p6⟩
  · refine⟨[],(fun b hb=>by cases hb),List.nodup_nil,.inl ⟨?_,p2,rfl⟩⟩
    rw[hlu];unfold rowV;rw[p1]
  · refine⟨[gb],fun b hb => ?_,by simp,.inr ⟨gb,(β j).cap,cb,?_,rfl,p2,p3,p4,p5,p6⟩⟩
    · simp only[List.mem_singleton] at hb;subst hb;exact .inl p1
    · rw[hlu,rowV_some p1]
 have hcat:=r5 z _ _ (s5 ys u Fj z f2.2 hput)
 have hFj:∀b,b∈Fj→b≠g∧b∉(β k).more:=fun b hb=>⟨fun q=>hjk (c.rel.dis j k b hjl hkl (f1 b hb) (.inl (by rw[hg,q]))),fun q=>hjk (c.rel.dis j k b hjl hkl (f1 b hb) (.inr q))⟩
 have hmore:(β k).more=F1++(A1++[]++A3)++F3:=by rw[r2,s3]
 have hnd:(g::(F1++(A1++Fj++A3)++F3)).Nodup:=by
  rw[hmore] at q8 hFj
  simp only[List.nodup_cons,List.nodup_append,List.mem_append,List.append_nil,not_or] at q8 hFj ⊢
  grind
 let β':Nat→Cr:=setC β k ⟨some g,(β k).cap,F1++(A1++Fj++A3)++F3⟩
 have hbk:β' k=⟨some g,(β k).cap,F1++(A1++Fj++A3)++F3⟩:=setC_one _ _ _
 have hbo:∀q,q≠k→β' q=β q:=fun q h1=>setC_other _ _ _ _ h1
 have hHk:updH H [(k,.orow e ty (xs.set i.toNat z)),(j,.dead)] k=.orow e ty (xs.set i.toNat z):=by simp[updH,List.lookup]
 have hHj:updH H [(k,.orow e ty (xs.set i.toNat z)),(j,.dead)] j=.dead:=by
  have:(j==k)=false:=by simpa using hjk
  simp[updH,List.lookup,this]
 have hHo:∀q,q≠k→q≠j→updH H [(k,.orow e ty (xs.set i.toNat z)),(j,.dead)] q=H q:=by
  intro q h1 h2
  have e1:(q==k)=false:=by simpa using h1
  have e2:(q==j)=false:=by simpa using h2
  simp[updH,List.lookup,e1,e2]
 have hask:∀b,(β' k).has b→(β k).has b∨(β j).has b:=by
  intro b hb
  rw[hbk] at hb
  rcases hb with hb | hb
  · exact .inl (.inl (by rw[hg];exact hb))
  · simp only[List.mem_append] at hb
    by_cases hf:b∈Fj
    · exact .inr (f1 b hf)
    · refine .inl (.inr ?_)
      rw[hmore]
      simp only[List.mem_append,List.append_nil]
      rcases hb with (hb | (hb | hb) | hb) | hb
      · exact .inl (.inl hb)
      · exact .inl (.inr (.inl hb))
      · exact absurd hb hf
      · exact .inl (.inr (.inr hb))
      · exact .inr hb
 have huo:u.oneCell'=true:=by rw[hlu];exact rowV_one _ _
 have hucells:u.cells.toList=[u]:=by rw[cells_one huo]
 have hst:=store_of c.hT (t:=t) (off:=i.toNat*ty.size+off) (v:=u) heap (by rw[hsl];simp) (by rw[hucells,hs1];rfl) (by rw[hucells];simp only[List.length_cons,List.length_nil];rw[List.length_take] at hpos;omega) (by rw[hucells];simpa using huo)
 rw[hucells] at hst
 have hset:cur.toList.take (i.toNat*ty.size+off)++[u]++cur.toList.drop (i.toNat*ty.size+off+[u].length)=cur.toList.set (i.toNat*ty.size+off) u:=by
  rw[List.set_eq_take_append_cons_drop,if_pos (by rw[List.length_take] at hpos;omega)]
  simp
 rw[hset] at hst
 intro next Q hnx
 obtain⟨z1,z2⟩:=Rel.step c.rel (β':=β') (H':=updH H [(k,.orow e ty (xs.set i.toNat z)),(j,.dead)]) (w':=w.setRow g (cur.toList.set (i.toNat*ty.size+off) u).toArray) (fun b=>b=g) rfl rfl rfl (by rw[size_setRow];exact Nat.le_refl _) (fun b hb=>⟨k,hkl,.inl (by rw[hg,hb])⟩) (fun b _ hb=>setRow_other w g b _ hb)
  (fun q=>by
   by_cases h1:q=k
   · subst h1
     rw[hHk,hbk,hk]
     exact .inr ⟨hg.symm,rfl,_,.inl rfl,by simp⟩
   · by_cases h2:q=j
     · subst h2;rw[hHj,hj];exact .inl rfl
     · rw[hHo q h1 h2,hbo q h1];exact ObExt.refl _ _)
  (fun q b hl' hb=>by
   by_cases h1:q=k
   · subst h1
     rcases hask b hb with hb | hb
     · exact .inl ⟨q,hkl,hb⟩
     · exact .inl ⟨j,hjl,hb⟩
   · by_cases h2:q=j
     · subst h2;rw[hHj] at hl';cases hl'
     · rw[hHo q h1 h2] at hl';rw[hbo q h1] at hb;exact .inl ⟨q,hl',hb⟩)
  (fun q q' b hl1 hl2 hb1 hb2=>by
   have dead:∀q,(updH H [(k,.orow e ty (xs.set i.toNat z)),(j,.dead)] q).live=true→q≠j:=fun q hq e=>by rw[e,hHj] at hq;cases hq
   have far:∀q b,q≠k→q≠j→(H q).live=true→(β q).has b→(β' k).has b→False:=by
    intro q b h1 h2 hl hb hb'
    rcases hask b hb' with hb' | hb'
    · exact h1 (c.rel.dis q k b hl hkl hb hb')
    · exact h2 (c.rel.dis q j b hl hjl hb hb')
   have d1:=dead q hl1
   have d2:=dead q' hl2
   by_cases h1:q=k
   · by_cases h1':q'=k
     · rw[h1,h1']
     · rw[hHo q' h1' d2] at hl2;rw[hbo q' h1'] at hb2;subst h1;exact (far q' b h1' d2 hl2 hb2 hb1).elim
   · rw[hHo q h1 d1] at hl1;rw[hbo q h1] at hb1
     by_cases h1':q'=k
     · subst h1';exact (far q b h1 d1 hl1 hb1 hb2).elim
     · rw[hHo q' h1' d2] at hl2;rw[hbo q' h1'] at hb2;exact c.rel.dis q q' b hl1 hl2 hb1 hb2)
  (fun hx q hl'=>by
   by_cases h1:q=k
   · subst h1
     right
     rw[hHk,hbk]
     refine .inr ⟨g,_,rfl,setRow_heap w g _ _ _ _ heap,by simpa using q3,q4,by
      rw[←q5]
      show (_:List Value).length=_
      rw[List.length_set]
      exact e0,?_,hnd⟩
     have:(cur.toList.set (i.toNat*ty.size+off) u).take ((xs.set i.toNat z).length*ty.size)=c1++c2.set off u++c3:=by
      have e1:(cur.toList.set (i.toNat*ty.size+off) u).take (xs.length*ty.size)=((cur.toList.take (xs.length*ty.size)).set (i.toNat*ty.size+off) (.slice none 0 0)).set (i.toNat*ty.size+off) u:=by
       rw[List.set_set,List.take_set]
      rw[List.length_set,e1,r1,List.append_assoc,List.append_assoc,List.set_append_right _ _ (by omega),r3,Nat.add_sub_cancel_left,List.set_append_left _ _ (by omega)]
     show CatO S _ ty _ ((cur.toList.set (i.toNat*ty.size+off) u).take _) _
     rw[this]
     exact CatO.mono hx.hS _ _ _ (fun b hb=>setRow_other w g b _ (fun e=>by subst e;exact (List.nodup_cons.1 hnd).1 hb)) hcat
   · left
     have h2:q≠j:=fun e=>by rw[e,hHj] at hl';cases hl'
     refine⟨hHo q h1 h2,hbo q h1,fun b hb e => ?_⟩
     rw[hHo q h1 h2] at hl'
     exact h1 (c.rel.dis q k b hl' hkl hb (.inl (by rw[hg,e]))))
 refine wp_unit (s:=Instr.storeAt t (a.eval x) (a.eval y)) (by simp only[execOp,ho]) ?_ (hnx undef _ S β' z1 ⟨_,rfl,trivial⟩ z2)
 rw[ev0,hv,eu]
 simp only[Instr.storeAt,Instr.sureAddr,Sem.run_bind,Sem.run_pure,Result.andThen_ok]
 exact hst
theorem s_store {t:TypeId} {x y:Operand} (ho:o.op=.store t x y) (c:Cx P T M S0 w0 S β H w a ev nid r) (hs:semOp T env ev H nid o=some r):Goes P M S0 w0 S β H w o a r:=by
 simp only[semOp,ho] at hs
 have hx:=c.hev x
 split at hs
 · rename_i k off ex
   rw[ex] at hx
   obtain⟨u,e1,hl⟩:=hx
   cases e1
   split at hs
   · rename_i el cs hk
     split at hs
     · rename_i l hc
       split at hs
       · rename_i hsz
         simp only[Option.some.injEq] at hs
         subst hs
         simp only[leaf,hk] at hl
         obtain⟨g,hg,hv⟩:=hl
         obtain⟨hvl,h1⟩:=VL.cells_of hc (c.hev y)
         have hob:=c.rel.ob k
         rw[hk] at hob
         obtain⟨g',vs,eg,eh,hvs⟩:=hob
         rw[hg] at eg
         cases eg
         have n1:=VLs.length _ _ hvl
         have n2:=VLs.length _ _ hvs
         have hst:=store_of c.hT (t:=t) (off:=off) (v:=a.eval y) eh (known_d hsz.1) (by rw[n1];exact hsz.2.1) (by rw[n1];simp only[List.size_toArray,n2];exact hsz.2.2) h1
         have hput:=VLs.putL cs vs off l _ hvs hvl (by rw[n1,n2];exact hsz.2.2)
         obtain⟨hr,hxt⟩:=c.rel.write k g (by rw[hk];rfl) hg (.cells el (putL cs off l)) (by rw[hk];exact .inr ⟨rfl,_,rfl⟩) (w':=w.setRow g (vs.take off++(a.eval y).cells.toList++vs.drop (off+(a.eval y).cells.toList.length)).toArray) rfl rfl rfl (size_setRow _ _ _) (fun b hb=>setRow_other w g b _ hb)
          (fun hxt=>⟨g,_,hg,setRow_heap w g _ _ _ _ eh,VLs.ext hxt _ _ hput⟩)
         intro next Q hn
         refine wp_unit (s:=Instr.storeAt t (a.eval x) (a.eval y)) (by simp only[execOp,ho]) ?_ (hn undef _ _ _ hr ⟨_,rfl,trivial⟩ hxt)
         rw[hv]
         simp only[Instr.storeAt,Instr.sureAddr,Sem.run_bind,Sem.run_pure,Result.andThen_ok]
         exact hst
       · cases hs
     · cases hs
   · cases hs
 · rename_i k i off ex
   rw[ex] at hx
   obtain⟨u,e1,hl⟩:=hx
   cases e1
   split at hs
   · rename_i el ty xs hk
     split at hs
     · rename_i l hc
       split at hs
       · rename_i hsz
         split at hs
         · rename_i z hz
           simp only[Option.some.injEq] at hs
           subst hs
           simp only[leaf,hk] at hl
           obtain⟨g,hg,h0,hi,hv⟩:=hl
           obtain⟨hvl,h1⟩:=VL.cells_of hc (c.hev y)
           have hob:=c.rel.ob k
           rw[hk] at hob
           rcases hob with ⟨eg,_⟩ | ⟨g',cur,eg,eh,hnc,hcm,hcs,hcat⟩
           · rw[hg] at eg;cases eg
           · rw[hg] at eg
             cases eg
             have hlt:i.toNat<xs.length:=by omega
             have hget:xs[i.toNat]? = some (xs.getD i.toNat ty.zero):=by
              simp only[List.getD]
              rw[List.getElem?_eq_getElem hlt]
              rfl
             obtain⟨es,he,hes⟩:=Cat.get (DR.length ty) xs _ i.toNat _ hcat hget
             have hen:=enc_of (β:=β) (H:=H) ty _ es he
             have n1:=VLs.length _ _ hvl
             have n3:=DR.length ty _ _ he
             have hput:=VLs.putL _ es off l _ hen hvl (by rw[n1,n3];exact hsz.2.2)
             have hdz:=dec1_of hput hz
             have hcat2:=Cat.set (DR.length ty) xs _ i.toNat z _ hcat hlt hdz
             have hmul:i.toNat*ty.size+ty.size≤xs.length*ty.size:=by rw[←Nat.succ_mul];exact Nat.mul_le_mul_right _ hlt
             have hcap:xs.length*ty.size≤(β k).cap*ty.size:=Nat.mul_le_mul_right _ hnc
             have hst:=store_of c.hT (t:=t) (off:=i.toNat*ty.size+off) (v:=a.eval y) eh (known_d hsz.1) (by rw[n1];exact hsz.2.1) (by rw[n1,hcs];have:=hsz.2.2;omega) h1
             have hlen:=Cat.length (DR.length ty) _ _ hcat
             have hes2:es=((cur.toList.take (xs.length*ty.size)).drop (i.toNat*ty.size)).take ty.size:=by
              apply List.ext_getElem?
              intro j
              by_cases hj:j<es.length
              · rw[List.getElem?_eq_getElem hj]
                have:=hes j es[j] (List.getElem?_eq_getElem hj)
                rw[List.getElem?_take,if_pos (by omega),List.getElem?_drop]
                exact this.symm
              · rw[List.getElem?_eq_none (by omega),List.getElem?_eq_none (by rw[List.length_take];omega)]
             have hce:(cur.toList.take (i.toNat*ty.size+off)++(a.eval y).cells.toList++cur.toList.drop (i.toNat*ty.size+off+(a.eval y).cells.toList.length)).take (xs.length*ty.size)=(cur.toList.take (xs.length*ty.size)).take (i.toNat*ty.size)++(es.take off++(a.eval y).cells.toList++es.drop (off+(a.eval y).cells.toList.length))++(cur.toList.take (xs.length*ty.size)).drop (i.toNat*ty.size+(es.take off++(a.eval y).cells.toList++es.drop (off+(a.eval y).cells.toList.length)).length):=by
              have q1:off+(a.eval y).cells.toList.length≤ty.size:=by rw[n1];exact hsz.2.2
              have q2:xs.length*ty.size≤cur.toList.length:=by
               have e:cur.toList.length=cur.size:=Array.length_toList
               rw[e,hcs];exact hcap
              have q3:(es.take off++(a.eval y).cells.toList++es.drop (off+(a.eval y).cells.toList.length)).length=ty.size:=by
               rw[List.length_append,List.length_append,List.length_take,List.length_drop];omega
              rw[q3,hes2]
              exact splice _ _ _ _ _ _ q1 hmul q2
             obtain⟨hr,hxt⟩:=c.rel.write k g (by rw[hk];rfl) hg (.row el ty (xs.set i.toNat z)) (by rw[hk];exact .inr ⟨rfl,_,rfl,by simp⟩) (w':=w.setRow g (cur.toList.take (i.toNat*ty.size+off)++(a.eval y).cells.toList++cur.toList.drop (i.toNat*ty.size+off+(a.eval y).cells.toList.length)).toArray) rfl rfl rfl (size_setRow _ _ _) (fun b hb=>setRow_other w g b _ hb)
              (fun hxt=>.inr ⟨g,_,hg,setRow_heap w g _ _ _ _ eh,by simpa using hnc,hcm,by
               rw[←hcs]
               show (_:List Value).length=_
               have e:cur.toList.length=cur.size:=Array.length_toList
               rw[List.length_append,List.length_append,List.length_take,List.length_drop,n1];have:=hsz.2.2;omega,by
               rw[List.length_set,hce]
               exact Cat.dr_mono hxt.hS hcat2⟩)
             intro next Q hn
             refine wp_unit (s:=Instr.storeAt t (a.eval x) (a.eval y)) (by simp only[execOp,ho]) ?_ (hn undef _ _ _ hr ⟨_,rfl,trivial⟩ hxt)
             rw[hv]
             simp only[Instr.storeAt,Instr.sureAddr,Sem.run_bind,Sem.run_pure,Result.andThen_ok]
             rw[add_lit,Nat.zero_add]
             exact hst
         · cases hs
       · cases hs
     · cases hs
   · rename_i el ty xs hk
     split at hs
     · rename_i l hc
       split at hs
       · rename_i hsz
         split at hs
         · rename_i z hz
           simp only[Option.some.injEq] at hs
           exact s_storeO ho c ex hk hc hsz hz hs.symm
         · cases hs
       · cases hs
     · cases hs
   · rename_i el ty xs i0 off0 hk
     split at hs
     · rename_i j ey
       exact s_give ho c ex hk ey hs
     · cases hs
   · cases hs
 · cases hs
end
end Go.Proofs.YtkpjcmiijlpcaaaGreat.Aw
