/- An abstract program logic over the model, seventeenth part: states, regions, bodies: what . -/
import Derived.Test.YtkpjcmiijlpcaaaDoorAwP
namespace Go.Proofs.YtkpjcmiijlpcaaaDoor.Aw
open Go
structure St where
 slots:List AV
 obs:List Ob
 n:Nat:=0
 y:Nat:=0
 stop:Bool:=false
def St.H (s:St) (k:Nat):Ob:=s.obs.getD k .none
def putObs:List Ob→List (Nat×Ob)→List Ob
 | l,[]=>l
 | l,(k,o)::r=>putObs (bif k.blt l.length then l.set k o else l++[o]) r
def okUpd:Nat→List (Nat×Ob)→Bool
 | _,[]=>true
 | n,(k,_)::r => !(r.any fun p=>p.1==k)&&bif k.blt n then okUpd n r else k==n&&okUpd (n+1) r
def putSlot (l:List AV) (d:Option Tmp) (v:AV):List AV:=match d with
 | some t=>l.set t v
 | none=>l
def St.put (s:St) (d:Option Tmp) (v:AV) (upd:List (Nat×Ob)):St:=⟨putSlot s.slots d v,putObs s.obs upd,s.n,s.y,s.stop⟩
def guardA:List Prop→Prop→Prop
 | [],k=>k
 | g::gs,k=>g∧guardA gs k
structure Rc where
 i:Nat
 reads:List Nat
 keys:List Nat
 soft:List Nat
 hard:List Nat
def opA (T:Tab) (env:Env) (o:Oper) (i:Nat) (s:St) (tr:List Rc) (k:St→List Rc→Prop):Prop:=
 match semOp T env (evA s.slots) s.H s.obs.length o with
 | some r=>bif okUpd s.obs.length r.upd then guardA r.gs (k (s.put o.dst r.v r.upd) (⟨i,readsOf (evA s.slots) s.H o,r.upd.map (·.1),softOf (evA s.slots) o,hardOf s.obs.length o r.upd⟩::tr)) else False
 | none=>False
def wantedA (ops:Array Oper) (sl:List AV) (o:Oper):Option Bool:=match o.guard with
 | none=>some true
 | some (j,want)=>match (ops[j]?).bind (·.dst) with
  | some t=>match sl.getD t .undef with
   | .bool b=>some (bif want then b else !b)
   | .tuple .nl=>some false
   | _=>none
  | none=>none
def fixG (ops:Array Oper) (o:Oper) (b:Bool) (s:St):St:=match o.guard with
 | none=>s
 | some (j,want)=>match (ops[j]?).bind (·.dst) with
  | some t=>match s.slots.getD t .undef with
   | .bool _=>⟨s.slots.set t (.bool (bif b then want else !want)),s.obs,s.n,s.y,s.stop⟩
   | _=>s
  | none=>s
def opsA (T:Tab) (env:Env) (ops:Array Oper):List Nat→St→List Rc→(St→List Rc→Prop)→Prop
 | [],s,tr,k=>k s tr
 | i::l,s,tr,k=>match ops[i]? with
  | none=>False
  | some o=>match wantedA ops s.slots o with
   | none=>False
   | some b=>bif b then opA T env o i (fixG ops o true s) tr fun s' tr'=>opsA T env ops l s' tr' k
    else opsA T env ops l ((fixG ops o false s).put o.dst (.tuple .nl) []) (⟨i,[],[],[],[]⟩::tr) k
def valOf:AV→Option Value
 | .int k n=>some (.int k n)
 | .bool b=>some (.bool b)
 | .str s=>some (.string s)
 | .agg .nl=>some (.agg #[])
 | .iface t v=>(valOf v).map (.iface t)
 | _=>none
inductive Sp where
 | dem (neg:Bool) (p:Prop)
 | pan (b:Bool) (x:Value) (r:Res)
 | yld (l:Nat) (as:List AV)
def semPan (env:Env) (H:Nat→Ob) (nid:Nat) (g:FuncId) (args:List AV) (lends:Bool):Option (Bool×Value×Res):=
 let as1:=bif lends then args.map (AV.lendR H) else args
 let perm:=reachH H 8 (as1.flatMap AV.refs) []
 match env.pan g with
 | none=>none
 | some f=>match f (as1.map (AV.ren perm)) (perm.map fun k=>(H k).ren perm) with
  | none=>none
  | some t=>match semCall2 env.pans H nid g args lends with
   | none=>none
   | some r=>some (t.b,t.x,r)
def spOf (T:Tab) (env:Env) (ev:Operand→AV) (H:Nat→Ob) (nid:Nat) (o:Oper):Option Sp:=
 match o.op with
 | .binOp op t x y _=>match (T.at_ t).d with
  | .slice _=>match ev y with
   | .nil0=>match ev x with
    | .list _ _ xs=>match op with
     | .eql=>some (.dem false (xs=[]))
     | .neq=>some (.dem true (xs=[]))
     | _=>none
    | .row k=>match H k with
     | .row _ _ xs=>match op with
      | .eql=>some (.dem false (xs=[]))
      | .neq=>some (.dem true (xs=[]))
      | _=>none
     | _=>none
    | _=>none
   | _=>none
  | _=>none
 | .panic x=>match ev x with
  | .iface t v=>match valOf v with
   | some u=>some (.pan true (.iface t u) ⟨[],.undef,[]⟩)
   | none=>none
  | _=>none
 | .call c=>match c.callee with
  | .value f=>match ev f with
   | .fn (.yield l) .nl .nl=>some (.yld l (c.args.toList.map ev))
   | .fn (.func g) a b=>match env.pan g with
    | none=>none
    | some _=>if a.chain&&b.chain then
     let args:=a.toList++((c.args.toList.map ev).zipIdx.map fun p=>typed T (c.argTypes.toList.getD p.2 0) p.1)++b.toList
     match semPan env H nid g args true with
     | some (p,x,r)=>some (.pan p x r)
     | none=>match semPan env H nid g args false with
      | some (p,x,r)=>some (.pan p x r)
      | none=>none
     else none
   | _=>none
  | _=>none
 | _=>none
def opO1 (T:Tab) (env:Env) (o:Oper) (i:Nat) (s:St) (k:St→Prop) (kp:Value→St→Prop):Prop:=
 match spOf T env (evA s.slots) s.H s.obs.length o with
 | none=>opA T env o i s [] fun s' _=>k s'
 | some (.dem neg p)=>(p→k (s.put o.dst (.bool (!neg)) []))∧k (s.put o.dst (.bool neg) [])
 | some (.pan b x r)=>bif okUpd s.obs.length r.upd then guardA r.gs (bif b then kp x (s.put none .undef r.upd) else k (s.put o.dst r.v r.upd)) else False
 | some (.yld l as)=>bif (as.flatMap AV.refs).isEmpty then
  l=env.yl∧s.stop=false∧s.y<env.ycnt∧as=env.yarg s.y ∧
   k (St.mk (putSlot s.slots o.dst (.bool true)) s.obs s.n (s.y+1) false)∧k (St.mk (putSlot s.slots o.dst (.bool false)) s.obs s.n (s.y+1) true)
  else False
def nxtOf (ev:Operand→AV) (H:Nat→Ob) (o:Oper):Option (Nat×Nat×Nat×List Nat×Nat):=match o.op with
 | .next it false=>match ev it with
  | .itr k=>match H k with
   | .mit m n seen _=>match H m with
    | .map _ _ es=>some (k,m,n,seen,es.length)
    | _=>none
   | _=>none
  | _=>none
 | _=>none
def dlgOf (T:Tab) (env:Env) (ev:Operand→AV) (H:Nat→Ob) (o:Oper):Option (Nat×FuncId×List AV×List AV×List Nat×TellsI):=match o.op with
 | .call c=>match c.callee with
  | .value f=>match ev f with
   | .fn (.func g) a b=>bif a.chain&&b.chain then
    match (c.args.toList.getLast?).map ev with
    | some (.fn (.yield l) .nl .nl)=>
     let as:=a.toList++c.args.toList.dropLast.map ev
     let perm:=reachH H 8 ((as++b.toList).flatMap AV.refs) []
     bif nodupB perm then
      match env.iter g (as.map (AV.ren perm)) (b.toList.map (AV.ren perm)) (perm.map fun k=>(H k).ren perm) with
      | some t=>some (l,g,as,b.toList,perm,t)
      | none=>none
     else none
    | _=>none
    else none
   | _=>none
  | _=>none
 | _=>none
def goneSt (s:St) (y:Nat) (st:Bool):St:=⟨s.slots.map fun _=>.undef,s.obs.map fun _=>.dead,s.n,y,st⟩
def opO (T:Tab) (env:Env) (o:Oper) (i:Nat) (s:St) (k:St→Prop) (kp:Value→St→Prop):Prop:=
 match dlgOf T env (evA s.slots) s.H o with
 | some (l,_,_,_,_,t)=>l=env.yl∧env.isIt=true∧s.stop=false∧guardA t.pre (s.y=0∧t.cnt=env.ycnt∧t.arg=env.yarg∧k (goneSt s t.cnt false)∧∀y,k (goneSt s y true))
 | none=>
 match nxtOf (evA s.slots) s.H o with
 | none=>opO1 T env o i s k kp
 | some (q,m,n,seen,len)=>n=len∧(∀j,j<len→j∉seen→k (s.put o.dst (.tuple (.cons (.bool true) (.cons .undef (.cons .undef .nl)))) [(q,.mit m n (seen++[j]) j)])) ∧
  ((∀j,j<len→j∈seen)→k (s.put o.dst (.tuple (.cons (.bool false) .nl)) []))
def opsO (T:Tab) (env:Env) (ops:Array Oper):List Nat→St→(St→Prop)→(Value→St→Prop)→Prop
 | [],s,k,_=>k s
 | i::l,s,k,kp=>match ops[i]? with
  | none=>False
  | some o=>match wantedA ops s.slots o with
   | none=>False
   | some b=>bif b then opO T env o i (fixG ops o true s) (fun s'=>opsO T env ops l s' k kp) kp
    else opsO T env ops l ((fixG ops o false s).put o.dst (.tuple .nl) []) k kp
inductive Ex where
 | normal
 | exit (id:Nat)
 | ret
 | panic (x:Value)
def thenA (next:St→Prop) (Q:Ex→St→Prop):Ex→St→Prop
 | .normal,s=>next s
 | .exit i,s=>Q (.exit i) s
 | .ret,s=>Q .ret s
 | .panic x,s=>Q (.panic x) s
def blockA (id:Nat) (Q:Ex→St→Prop):Ex→St→Prop
 | .exit j,s=>bif j==id then Q .normal s else Q (.exit j) s
 | .normal,s=>Q .normal s
 | .ret,s=>Q .ret s
 | .panic x,s=>Q (.panic x) s
theorem ObExt.dead' (c c':Cr) (o:Ob):ObExt c o c' .dead:=by
 cases o with
 | none=>trivial
 | dead=>rfl
 | _=>exact .inl rfl
theorem putObs_get:∀(upd:List (Nat×Ob)) (l:List Ob) (k:Nat),okUpd l.length upd=true→(putObs l upd).getD k .none=(upd.lookup k).getD (l.getD k .none)
 | [],_,_,_=>rfl
 | (j,o)::r,l,k,h=>by
  simp only[okUpd,Bool.and_eq_true,Bool.not_eq_true'] at h
  obtain⟨h1,h2⟩:=h
  simp only[putObs,List.lookup]
  have hno:∀q∈r,q.1≠j:=by
   intro q hq e
   have:=List.any_eq_false.1 h1 q hq
   simp[e] at this
  by_cases hj:j.blt l.length=true
  · rw[hj] at h2 ⊢
    simp only[cond_true] at h2 ⊢
    rw[putObs_get r (l.set j o) k (by rwa [List.length_set])]
    by_cases hk:k=j
    · subst hk
      have hl:r.lookup k=none:=by
       rw[List.lookup_eq_none_iff]
       intro q hq
       simpa using fun e:k=q.1=>hno q hq e.symm
      rw[hl]
      have:k<l.length:=by simpa using hj
      simp[List.getD,this]
    · have e:(k==j)=false:=by simpa using hk
      rw[e]
      simp only[List.getD,List.getElem?_set_ne (fun e=>hk e.symm)]
  · have hj':j.blt l.length=false:=Bool.eq_false_iff.2 hj
    rw[hj'] at h2 ⊢
    simp only[cond_false,Bool.and_eq_true,beq_iff_eq] at h2 ⊢
    obtain⟨rfl,h2⟩:=h2
    rw[putObs_get r (l++[o]) k (by simpa using h2)]
    by_cases hk:k=l.length
    · subst hk
      have hl:r.lookup l.length=none:=by
       rw[List.lookup_eq_none_iff]
       intro q hq
       simpa using fun e:l.length=q.1=>hno q hq e.symm
      rw[hl]
      simp[List.getD]
    · have e:(k==l.length)=false:=by simpa using hk
      rw[e]
      simp only[List.getD]
      rw[List.getElem?_append]
      split
      · rfl
      · rw[List.getElem?_eq_none (l:=[o]) (by simp;omega),List.getElem?_eq_none (l:=l) (by omega)]
theorem putObs_H (s:St) (d:Option Tmp) (v:AV) (upd:List (Nat×Ob)) (h:okUpd s.obs.length upd=true):(s.put d v upd).H=updH s.H upd:=by
 funext k
 exact putObs_get upd s.obs k h
theorem guardA_spec:∀(gs:List Prop) (k:Prop),guardA gs k→(∀g∈gs,g)∧k
 | [],_,h=>⟨by simp,h⟩
 | g::gs,k,h=>by
  obtain⟨h1,h2⟩:=guardA_spec gs k h.2
  refine⟨fun x hx => ?_,h2⟩
  rcases List.mem_cons.1 hx with rfl | hx
  · exact h.1
  · exact h1 x hx
theorem putSlot_get (l:List AV) (d:Option Tmp) (v:AV) (t:Nat):(putSlot l d v).getD t .undef=if d=some t∧t<l.length then v else l.getD t .undef:=by
 cases d with
 | none=>simp[putSlot]
 | some d=>
  simp only[putSlot,List.getD,Option.some.injEq]
  by_cases h:d=t
  · subst h
    rw[List.getElem?_set_self']
    by_cases h2:d<l.length
    · rw[if_pos ⟨rfl,h2⟩,List.getElem?_eq_getElem h2];rfl
    · rw[if_neg (fun h=>h2 h.2),List.getElem?_eq_none (Nat.not_lt.1 h2)];rfl
  · rw[List.getElem?_set_ne h,if_neg (fun h2=>h h2.1)]
theorem putSlot_length (l:List AV) (d:Option Tmp) (v:AV):(putSlot l d v).length=l.length:=by
 cases d<;>simp[putSlot]
structure Pin where
 n:Nat
 β:Nat→Cr
 H:Nat→Ob
 r:Bool:=false
def DefsOk (S0 S:Nat→Prop) (w:World):List Deferred→Prop
 | []=>True
 | d::ds=>(∃D,d={target:=.collected D,args := #[]}∧¬S0 D∧S D∧w.heap[D]? = some (.deferred (some []))∧∀d'∈ds,d'.target≠.collected D)∧DefsOk S0 S w ds
theorem DefsOk.mono {S0 S S':Nat→Prop} {w w':World} (h:∀b,S b→S' b∧w'.heap[b]? = w.heap[b]?):∀ds,DefsOk S0 S w ds→DefsOk S0 S' w' ds
 | [],_=>trivial
 | _::ds,⟨⟨D,e,h0,h1,h2,h3⟩,h4⟩=>⟨⟨D,e,h0,(h D h1).1,(h D h1).2.trans h2,h3⟩,DefsOk.mono h ds h4⟩
def DfOk (r:Bool) (S0 S:Nat→Prop) (w:World) (ds:List Deferred):Prop:=(r=true→ds=[])∧DefsOk S0 S w ds
theorem DfOk.mono {r:Bool} {S0 S S':Nat→Prop} {w w':World} {ds:List Deferred} (hd:DfOk r S0 S w ds) (h:∀b,S b→S' b∧w'.heap[b]? = w.heap[b]?):DfOk r S0 S' w' ds:=⟨hd.1,DefsOk.mono h ds hd.2⟩
structure Inv (M S0:Nat→Prop) (w0:World) (π:Pin) (sl:List AV) (H:Nat→Ob) (S:Nat→Prop) (β:Nat→Cr) (a:Act) (w:World):Prop where
 rel:Rel M S0 w0 S β H w
 len:sl.length≤a.tmps.size
 sl:∀t,VL S w β H (sl.getD t .undef) [a.tmps.getD t undef]
 nod:DfOk π.r S0 S w a.defers
 pin:∀k,k<π.n→ObExt (π.β k) (π.H k) (β k) (H k)
section
variable {P:Program} {T:Tab} {env:Env} {M S0:Nat→Prop} {w0:World} {π:Pin} {S:Nat→Prop} {β:Nat→Cr} {H:Nat→Ob} {w:World} {o:Oper} {a:Act} {sl:List AV} {nid:Nat} {r:Res} {ρ:Option Nat}
theorem ev_of (hG:GL S w) (hsl:∀t,VL S w β H (sl.getD t .undef) [a.tmps.getD t undef]) (x:Operand):VL S w β H (evA sl x) [a.eval x]:=by
 unfold evA
 split<;>first
  | exact hsl _
  | exact⟨_,rfl,rfl⟩
  | exact⟨[],[],rfl,rfl,rfl⟩
  | exact hG.vl _ _ _
  | exact⟨_,rfl,trivial⟩
theorem put_sl {d:Option Tmp} {v:AV} {u:Value} (hl:sl.length≤a.tmps.size) (hsl:∀t,VL S w β H (sl.getD t .undef) [a.tmps.getD t undef]) (hv:VL S w β H v [u]) :
 (putSlot sl d v).length≤(a.put d u).tmps.size∧∀t,VL S w β H ((putSlot sl d v).getD t .undef) [(a.put d u).tmps.getD t undef]:=by
 refine⟨by rw[putSlot_length];cases d<;>simp[Act.put,hl],fun t => ?_⟩
 rw[putSlot_get]
 cases d with
 | none=>rw[if_neg (by simp)];exact hsl t
 | some d=>
  simp only[Option.some.injEq,Act.put]
  by_cases h:d=t∧t<sl.length
  · rw[if_pos h]
    obtain⟨rfl,h2⟩:=h
    have:(a.tmps.setIfInBounds d u).getD d undef=u:=by
     have:d<a.tmps.size:=Nat.lt_of_lt_of_le h2 hl
     simp[Array.getD,this]
    rw[this]
    exact hv
  · rw[if_neg h]
    by_cases h2:d=t
    · subst h2
      rw[List.getD,List.getElem?_eq_none (Nat.not_lt.1 (fun h2=>h ⟨rfl,h2⟩))]
      exact⟨_,rfl,trivial⟩
    · have:(a.tmps.setIfInBounds d u).getD t undef=a.tmps.getD t undef:=by
       simp[Array.getElem?_setIfInBounds_ne h2]
      rw[this]
      exact hsl t
theorem wpIn_of_wp {next:Act→World→Prop} {Q:Exit→Act→World→Prop} (hd:∀c,o.op≠.defer c) (h:o.wp P a w next Q):o.wpIn (Wd ρ) 0 P a w next Q:=by
 refine⟨fun _ _=>trivial,?_⟩
 rw[Oper.semAt_eq _ _ _ hd]
 unfold Oper.wp at h
 generalize (execOp a.eval o).run P w=rr at h
 unfold Oper.upon at h
 unfold Oper.uponIn
 split at h<;>try exact h
 · exact⟨fun hh=>by simp[Fence.wide] at hh,callsIn_wide.2 h⟩
 · refine⟨fun hh=>by simp[Fence.wide] at hh,fun c cs _ => ?_⟩
   obtain⟨v,w',r,hs⟩:=h c cs
   exact⟨v,w',r,stepsIn_wide.2 hs⟩
 · exact h.elim
theorem op_sound (he:EnvOk P env) (hT:TabOk P T) (i:Inv M S0 w0 π sl H S β a w) (hs:semOp T env (evA sl) H nid o=some r) (hg:∀g∈r.gs,g) (hn:∀p∈r.upd,nid≤p.1→H p.1=.none)
 {K:Act→World→Prop} {Q:Exit→Act→World→Prop} (hk:∀S' β' a' w',Inv M S0 w0 π (putSlot sl o.dst r.v) (updH H r.upd) S' β' a' w'→K a' w'):o.wpIn (Wd ρ) 0 P a w K Q:=by
 refine wpIn_of_wp (fun c hc=>by simp only[semOp,hc] at hs;cases hs) ?_
 refine semOp_sound he ⟨hT,i.rel,ev_of i.rel.gl i.sl,hn,hg⟩ hs K Q (fun v w' S' β' h1 h2 h3=>hk S' β' _ w' ?_)
 obtain⟨q1,q2⟩:=put_sl (d:=o.dst) i.len (fun t=>VL.ext h3 _ _ (i.sl t)) h2
 exact⟨h1,q1,q2,by cases o.dst<;>exact i.nod.mono h3.hS,fun k hk=>(i.pin k hk).trans (h3.hO k)⟩
theorem skip_sound (i:Inv M S0 w0 π sl H S β a w) (d:Option Tmp):Inv M S0 w0 π (putSlot sl d (.tuple .nl)) H S β (a.put d undef) w:=by
 obtain⟨q1,q2⟩:=put_sl (d:=d) (v:=.tuple .nl) (u:=undef) i.len i.sl ⟨[],rfl,rfl⟩
 exact⟨i.rel,q1,q2,by cases d<;>exact i.nod,i.pin⟩
theorem wanted_of {ops:Array Oper} {b:Bool} (i:Inv M S0 w0 π sl H S β a w) (h:wantedA ops sl o=some b):Region.wanted o (yielded ops a.tmps)=b:=by
 unfold wantedA at h
 unfold Region.wanted
 split at h
 · rename_i hg
   rw[hg]
   cases h
   rfl
 · rename_i j want hg
   rw[hg]
   split at h
   · rename_i t ht
     split at h
     · rename_i b' hb
       cases h
       have hv:=i.sl t
       rw[hb] at hv
       have hv:=VL.bool hv
       have e:yielded ops a.tmps j=some b':=by
        unfold yielded
        rw[ht]
        simp only[Option.bind_some]
        have hlt:t<a.tmps.size:=by
         rcases Nat.lt_or_ge t a.tmps.size with h | h
         · exact h
         · have:=i.len
           rw[List.getD,List.getElem?_eq_none (Nat.le_trans this h)] at hb
           cases hb
        rw[Array.getElem?_eq_getElem hlt]
        have:a.tmps[t]=.bool b':=by simpa [Array.getD,hlt] using hv
        rw[this]
       show (yielded ops a.tmps j==some want)=(bif want then b' else !b')
       rw[e]
       cases b'<;>cases want<;>rfl
     · rename_i hb
       cases h
       have hv:=i.sl t
       rw[hb] at hv
       have e:yielded ops a.tmps j=none:=by
        unfold yielded
        rw[ht]
        simp only[Option.bind_some]
        obtain⟨cs,h1,h2⟩:=hv
        have h2':cs=[]:=h2
        subst h2'
        simp only[List.cons.injEq,and_true] at h1
        cases hq:a.tmps[t]? with
        | none=>rfl
        | some u=>
         have:u=.tuple #[]:=by
          have h3:a.tmps.getD t undef=u:=by rw[Array.getD_eq_getD_getElem?,hq];rfl
          rw[←h3,h1]
         rw[this]
       show (yielded ops a.tmps j==some want)=false
       rw[e]
       rfl
     · cases h
   · cases h
theorem fixG_eq {ops:Array Oper} {s:St} {b:Bool} (h:wantedA ops s.slots o=some b):fixG ops o b s=s:=by
 unfold wantedA at h
 unfold fixG
 cases hg:o.guard with
 | none=>rfl
 | some q=>
  obtain⟨j,want⟩:=q
  rw[hg] at h
  simp only at h ⊢
  cases ht:(ops[j]?).bind (·.dst) with
  | none=>rfl
  | some t=>
   rw[ht] at h
   simp only at h ⊢
   split at h
   · rename_i b' hb
     have e:(bif b then want else !want)=b':=by
      cases b<;>cases want<;>cases b'<;>simp at h ⊢
     rw[hb]
     simp only
     rw[e,←hb]
     have:s.slots.set t (s.slots.getD t .undef)=s.slots:=by
      apply List.ext_getElem?
      intro i
      rw[List.getElem?_set]
      split
      · rename_i hi
        subst hi
        split
        · rename_i hl
          simp only[List.getD,List.getElem?_eq_getElem hl,Option.getD_some]
        · rename_i hl
          rw[List.getElem?_eq_none (Nat.not_lt.1 hl)]
      · rfl
     rw[this]
   · rename_i hb
     rw[hb]
   · cases h
abbrev Bs:=Nat→Bool→(Nat→Prop)→(Nat→Prop)→World→Prop
def InvB (B:Bs) (π:Pin) (s:St) (S:Nat→Prop) (β:Nat→Cr) (a:Act) (w:World):Prop:=∃M S0 w0,B s.y s.stop M S0 w0∧Inv M S0 w0 π s.slots s.H S β a w
def Yield1 (P:Program) (env:Env) (B:Bs) (π:Pin):Prop:=∀y M S0 w0 sl H S β a w us,B y false M S0 w0→Inv M S0 w0 π sl H S β a w→y<env.ycnt→VLs S w β H (env.yarg y) us→(env.yarg y).flatMap AV.refs=[] →
 ∃f tmps assign body,(Instr.yield env.yl us.toArray).run P w=.ok (.round env.yl f tmps assign body) w∧RoundIn (Wd none) 0 P env.yl f tmps assign body w fun e w'=>∃b,e=.returned (.bool b)∧∃M' S0' w0',B (y+1) (!b) M' S0' w0'∧Inv M' S0' w0' π sl H S β a w'
def DlgOk (P:Program) (env:Env) (B:Bs) (π:Pin):Prop:=env.isIt=true→π.r=true∧∀y M S0 w0 sl H S β a w g args caps obs β' cnt arg vs cs,B y false M S0 w0→Inv M S0 w0 π sl H S β a w→AIter P g args caps obs cnt arg →
 y+cnt=env.ycnt→(∀i,i<cnt→arg i=env.yarg (y+i))→Rel (Mof β' obs) S w S β' (newsH obs) w→VLs S w β' (newsH obs) args vs→VLs S w β' (newsH obs) caps cs→(∀b,Mof β' obs b→∃k,(H k).live=true∧(β k).has b) →
 Calls P g (vs++[Value.func (.yield env.yl) #[] #[]]++cs).toArray w fun e w'=>∃u,e=.returned u∧∃i st,(st=true∨i=cnt)∧∃M' S0' S' w0',B (y+i) st M' S0' w0'∧∀H',(∀k,(H' k).live=false)→Rel M' S0' w0' S' β H' w'
def YieldOk (P:Program) (env:Env) (B:Bs) (π:Pin):Prop:=Yield1 P env B π∧DlgOk P env B π
theorem YieldOk.none {P:Program} {env:Env} {B:Bs} {π:Pin} (hy:env.ycnt=0∧env.isIt=false):YieldOk P env B π:=⟨fun y _ _ _ _ _ _ _ _ _ _ _ _ h=>by rw[hy.1] at h;exact absurd h (Nat.not_lt_zero y),fun h=>by rw[hy.2] at h;cases h⟩
theorem valOf_of:∀(x:AV) (u:Value),valOf x=some u→∀vs,VL S w β H x vs→vs=[u]
 | .int _ _,_,h,_,⟨_,e,hv⟩=>by cases h;rw[e,show _=_ from hv]
 | .bool _,_,h,_,⟨_,e,hv⟩=>by cases h;rw[e,show _=_ from hv]
 | .str _,_,h,_,⟨_,e,hv⟩=>by cases h;rw[e,show _=_ from hv]
 | .agg .nl,_,h,_,⟨cs,e,hv⟩=>by cases h;cases hv;exact e
 | .iface t v,u,h,_,⟨x,e,hv⟩=>by
  simp only[valOf,Option.map_eq_some_iff] at h
  obtain⟨u',h1,h2⟩:=h
  have:=valOf_of v u' h1 _ hv
  cases this
  rw[e,h2]
theorem dem_of (hr:Rel M S0 w0 S β H w) {xa:AV} {u:Value} {p:Prop} (hv:VL S w β H xa [u]) (h:(∃e t xs,xa=.list e t xs∧(xs=[]→p))∨∃k e t xs,xa=.row k∧H k=.row e t xs∧(xs=[]→p)) :
 ∃ao n c,u=.slice ao n c∧(ao.isNone=true→p):=by
 rcases h with ⟨e,t,xs,rfl,hp⟩ | ⟨k,e,t,xs,rfl,hk,hp⟩
 · obtain⟨v,e1,hl⟩:=hv
   cases e1
   obtain⟨ao,n,c,es,e1,e2,e3,_,_,e4⟩:=hl
   cases e1
   refine⟨_,_,_,rfl,fun hn=>hp ?_⟩
   have:=e4 (by simpa using hn)
   exact List.eq_nil_of_length_eq_zero (by omega)
 · obtain⟨v,e1,hl⟩:=hv
   cases e1
   simp only[leaf,hk] at hl
   have hob:=hr.ob k
   rw[hk] at hob
   rcases hob with ⟨_,e3⟩ | ⟨g,cur,e2,_⟩
   · rw[hl]
     unfold rowV
     split<;>exact⟨_,_,_,rfl,fun _=>hp e3⟩
   · refine⟨some ⟨g,0,none⟩,xs.length,(β k).cap,by rw[hl];unfold rowV;rw[e2],fun hn=>by cases hn⟩
theorem dem_sound (hT:TabOk P T) (i:Inv M S0 w0 π sl H S β a w) {op:BinOp} {t ty e:TypeId} {x y:Operand} {neg:Bool} {p:Prop} (ho:o.op=.binOp op t x y ty) (hd:(T.at_ t).d=.slice e) (hy:evA sl y=.nil0)
 (hop:op=(bif neg then .neq else .eql)) (hx:(∃e t xs,evA sl x=.list e t xs∧(xs=[]→p))∨∃k e t xs,evA sl x=.row k∧H k=.row e t xs∧(xs=[]→p)) {K:Act→World→Prop} {Q:Exit→Act→World→Prop}
 (h1:p→∀a',Inv M S0 w0 π (putSlot sl o.dst (.bool (!neg))) H S β a' w→K a' w) (h2:∀a',Inv M S0 w0 π (putSlot sl o.dst (.bool neg)) H S β a' w→K a' w):o.wpIn (Wd ρ) 0 P a w K Q:=by
 refine wpIn_of_wp (fun c hc=>by rw[ho] at hc;cases hc) ?_
 have g2:=ev_of i.rel.gl i.sl y
 rw[hy] at g2
 obtain⟨v2,e3,e4⟩:=g2
 simp only[List.cons.injEq,and_true] at e3
 have e4:v2=.slice none 0 0:=e4
 obtain⟨ao,n,cc,q1,q2⟩:=dem_of i.rel (ev_of i.rel.gl i.sl x) hx
 have put:∀b,Inv M S0 w0 π (putSlot sl o.dst (.bool b)) H S β (a.put o.dst (.bool b)) w:=fun b=>by
  obtain⟨r1,r2⟩:=put_sl (d:=o.dst) (v:=.bool b) (u:=.bool b) i.len i.sl ⟨_,rfl,rfl⟩
  exact⟨i.rel,r1,r2,by cases o.dst<;>exact i.nod,i.pin⟩
 subst hop
 cases neg with
 | false=>
  simp only[cond_false] at *
  refine wp_val (s:=do eqGuard .eql t x y (a.eval x) (a.eval y);binOp .eql t (a.eval x) (a.eval y)) (v:=.bool ao.isNone) (by simp only[execOp,ho]) (by rw[q1,e3,e4];exact bin_nil (.inl rfl) hT hd) ?_
  cases hn:ao.isNone with
  | true=>exact h1 (q2 hn) _ (put true)
  | false=>exact h2 _ (put false)
 | true=>
  simp only[cond_true] at *
  refine wp_val (s:=do eqGuard .neq t x y (a.eval x) (a.eval y);binOp .neq t (a.eval x) (a.eval y)) (v:=.bool (!ao.isNone)) (by simp only[execOp,ho]) (by rw[q1,e3,e4];exact bin_nil (.inr rfl) hT hd) ?_
  cases hn:ao.isNone with
  | true=>exact h1 (q2 hn) _ (put false)
  | false=>exact h2 _ (put true)
theorem pan_two (he:EnvOk P env) {b:Bool} {x:Value} {lends:Bool} {g:FuncId} {args:List AV} (hs:semPan env H nid g args lends=some (b,x,r)) :
 ∃env':Env,semCall2 env' H nid g args lends=some r∧∀g args obs t,env'.two g args obs=some t→(∀p∈t.pre,p)→ACalls2 P g args obs (vOf (bif b then some x else none) t.v) (finObs obs t.olds t.news) (bif b then some x else none):=by
 unfold semPan at hs
 split at hs
 · cases hs
 rename_i f hf
 simp only at hs
 split at hs
 · cases hs
 rename_i t ht
 split at hs
 · cases hs
 rename_i r' hr
 simp only[Option.some.injEq,Prod.mk.injEq] at hs
 obtain⟨hb,hx,rfl⟩:=hs
 classical
 refine⟨{env with two:=fun g' as obs=>if g'=g then (match f as obs with
  | some t=>if t.b=b∧t.x=x then some t.two else none
  | none=>none) else none},?_,?_⟩
 · rw[←hr]
   unfold semCall2
   simp only[Env.pans,hf,if_true]
   rw[ht]
   simp only[Option.map_some,hb,hx,and_self,if_true]
 · intro g' args' obs t' h1 h2
   simp only at h1
   split at h1
   rotate_left
   · cases h1
   rename_i hg
   subst hg
   split at h1
   rotate_left
   · cases h1
   rename_i t2 ht2
   split at h1
   rotate_left
   · cases h1
   rename_i hc
   cases h1
   obtain⟨k1,k2⟩:=he.pan g' f args' obs t2 hf ht2 h2
   cases b with
   | false=>exact k1 hc.1
   | true=>rw[←hc.2];exact k2 hc.1
theorem opO1_sound (he:EnvOk P env) (hT:TabOk P T) {B:Bs} (hY:YieldOk P env B π) {j:Nat} {s:St} {k:St→Prop} {kp:Value→St→Prop} {K:Act→World→Prop} {Q:Exit→Act→World→Prop} (hi:InvB B π s S β a w) (h:opO1 T env o j s k kp)
 (hk:∀s' S' β' a' w',InvB B π s' S' β' a' w'→s'.n=s.n→k s'→K a' w')
 (hp:∀x s' S' β' a' w',InvB B π s' S' β' a' w'→s'.n=s.n→kp x s'→Q (.panic [{v:=x,recovered:=false}]) a' w'):o.wpIn (Wd ρ) 0 P a w K Q:=by
 obtain⟨M,S0,w0,hb,hi⟩:=hi
 have hnew:∀(upd:List (Nat×Ob)),∀p∈upd,s.obs.length≤p.1→s.H p.1=.none:=by
  intro upd p _ hle
  simp only[St.H,List.getD]
  rw[List.getElem?_eq_none hle]
  rfl
 unfold opO1 at h
 split at h
 · unfold opA at h
   split at h
   rotate_left
   · cases h
   rename_i r hr
   cases hok:okUpd s.obs.length r.upd with
   | false=>rw[hok] at h;exact h.elim
   | true=>
    rw[hok] at h
    simp only[cond_true] at h
    obtain⟨h1,h2⟩:=guardA_spec _ _ h
    exact op_sound he hT hi hr h1 (hnew _) (fun S' β' a' w' hi'=>hk (s.put o.dst r.v r.upd) S' β' a' w' ⟨M,S0,w0,hb,by rw[putObs_H _ _ _ _ hok];exact hi'⟩ rfl h2)
 · rename_i neg p hsp
   unfold spOf at hsp
   split at hsp
   · rename_i op t x y ty ho
     split at hsp
     rotate_left
     · cases hsp
     rename_i e hd
     split at hsp
     rotate_left
     · cases hsp
     rename_i hy
     have fin:op=(bif neg then .neq else .eql)→((∃e t xs,evA s.slots x=.list e t xs∧(xs=[]→p))∨∃k e t xs,evA s.slots x=.row k∧s.H k=.row e t xs∧(xs=[]→p))→o.wpIn (Wd ρ) 0 P a w K Q:=fun hop hx=>
      dem_sound hT hi ho hd hy hop hx (fun hpp a' hi'=>hk (s.put o.dst (.bool (!neg)) []) S β a' w ⟨M,S0,w0,hb,hi'⟩ rfl (h.1 hpp)) (fun a' hi'=>hk (s.put o.dst (.bool neg) []) S β a' w ⟨M,S0,w0,hb,hi'⟩ rfl h.2)
     split at hsp
     · rename_i e' t' xs hx
       split at hsp<;>first
        | (simp only[Option.some.injEq,Sp.dem.injEq] at hsp;obtain⟨rfl,rfl⟩:=hsp;exact fin rfl (.inl ⟨_,_,_,hx,id⟩))
        | cases hsp
     · rename_i k' hx
       split at hsp
       rotate_left
       · cases hsp
       rename_i e' t' xs hk'
       split at hsp<;>first
        | (simp only[Option.some.injEq,Sp.dem.injEq] at hsp;obtain⟨rfl,rfl⟩:=hsp;exact fin rfl (.inr ⟨_,_,_,_,hx,hk',id⟩))
        | cases hsp
     · cases hsp
   · split at hsp
     · split at hsp<;>cases hsp
     · cases hsp
   · split at hsp
     rotate_left
     · cases hsp
     split at hsp
     · cases hsp
     · split at hsp
       · cases hsp
       · split at hsp
         · simp only at hsp
           split at hsp
           · cases hsp
           · split at hsp<;>cases hsp
         · cases hsp
     · cases hsp
   · cases hsp
 · rename_i b x r hsp
   cases hok:okUpd s.obs.length r.upd with
   | false=>rw[hok] at h;exact h.elim
   | true=>
   rw[hok] at h
   simp only[cond_true] at h
   obtain⟨h1,h2⟩:=guardA_spec _ _ h
   unfold spOf at hsp
   split at hsp
   · split at hsp
     · split at hsp
       · split at hsp
         · split at hsp<;>cases hsp
         · split at hsp
           · split at hsp<;>cases hsp
           · cases hsp
         · cases hsp
       · cases hsp
     · cases hsp
   · rename_i x0 ho
     split at hsp
     rotate_left
     · cases hsp
     rename_i t v hx
     split at hsp
     rotate_left
     · cases hsp
     rename_i u hu
     simp only[Option.some.injEq,Sp.pan.injEq] at hsp
     obtain⟨rfl,rfl,rfl⟩:=hsp
     simp only[cond_true] at h2
     have hv:=ev_of hi.rel.gl hi.sl x0
     rw[hx] at hv
     have:=valOf_of _ (.iface t u) (by simp[valOf,hu]) _ hv
     simp only[List.cons.injEq,and_true] at this
     refine wpIn_of_wp (fun c hc=>by rw[ho] at hc;cases hc) ?_
     unfold Oper.wp execOp
     simp only[ho,this,Instr.panic]
     exact hp _ (s.put none .undef []) S β a w ⟨M,S0,w0,hb,hi⟩ rfl h2
   · rename_i c0 ho
     split at hsp
     rotate_left
     · cases hsp
     rename_i f hcal
     split at hsp
     · cases hsp
     rotate_left
     · cases hsp
     rename_i g x' y' hfv
     split at hsp
     · cases hsp
     split at hsp
     rotate_left
     · cases hsp
     rename_i hch
     simp only[Bool.and_eq_true] at hch
     simp only at hsp
     have hf:=ev_of hi.rel.gl hi.sl f
     rw[hfv] at hf
     obtain⟨p,q,e1,v1',v2'⟩:=hf
     simp only[List.cons.injEq,and_true] at e1
     have v1:=VL.list_of x' p hch.1 v1'
     have v2:=VL.list_of y' q hch.2 v2'
     have vm:∀(l:List Operand) (n:Nat),VLs S w β s.H (((l.map (evA s.slots)).zipIdx n).map fun p=>typed T (c0.argTypes.toList.getD p.2 0) p.1) (l.map a.eval):=by
      intro l
      induction l with
      | nil=>intro n;exact rfl
      | cons z l ih=>intro n;exact⟨_,_,rfl,VL.typed (ev_of hi.rel.gl hi.sl z),ih (n+1)⟩
     have va:=VLs.append _ _ _ _ (VLs.append _ _ _ _ v1 (vm c0.args.toList 0)) v2
     have fin:∀lends,semPan env s.H s.obs.length g (x'.toList++(((c0.args.toList.map (evA s.slots)).zipIdx.map fun p=>typed T (c0.argTypes.toList.getD p.2 0) p.1))++y'.toList) lends=some (b,x,r)→o.wpIn (Wd ρ) 0 P a w K Q:=by
      intro lends hs
      obtain⟨env',k1,k2⟩:=pan_two he hs
      refine wpIn_of_wp (fun c hc=>by rw[ho] at hc;cases hc) ?_
      refine call2_core (T:=T) (ev:=evA s.slots) k2 ho hcal ⟨hT,hi.rel,ev_of hi.rel.gl hi.sl,hnew _,h1⟩ e1 va k1 K Q ?_ ?_
      · intro hb1 v w' S' β' g1 g2 g3
        have hbf:b=false:=by cases b<;>simp at hb1 ⊢
        subst hbf
        obtain⟨q1,q2⟩:=put_sl (d:=o.dst) hi.len (fun t=>VL.ext g3 _ _ (hi.sl t)) g2
        exact hk (s.put o.dst r.v r.upd) S' β' _ w' ⟨M,S0,w0,hb,⟨by rw[putObs_H _ _ _ _ hok];exact g1,q1,by rw[putObs_H _ _ _ _ hok];exact q2,by cases o.dst<;>exact hi.nod.mono g3.hS,fun k hk=>(hi.pin k hk).trans (by rw[putObs_H _ _ _ _ hok];exact g3.hO k)⟩⟩ rfl h2
      · intro x2 hb1 w' S' β' g1 g3
        have hbt:b=true∧x2=x:=by cases b<;>simp at hb1 ⊢;exact hb1.symm
        obtain⟨rfl,rfl⟩:=hbt
        exact hp _ (s.put none .undef r.upd) S' β' a w' ⟨M,S0,w0,hb,⟨by rw[putObs_H _ _ _ _ hok];exact g1,hi.len,by rw[putObs_H _ _ _ _ hok];exact fun t=>VL.ext g3 _ _ (hi.sl t),hi.nod.mono g3.hS,fun k hk=>(hi.pin k hk).trans (by rw[putObs_H _ _ _ _ hok];exact g3.hO k)⟩⟩ rfl h2
     split at hsp
     · rename_i hs
       simp only[Option.some.injEq,Sp.pan.injEq] at hsp
       obtain⟨rfl,rfl,rfl⟩:=hsp
       exact fin true hs
     · split at hsp
       · rename_i hs
         simp only[Option.some.injEq,Sp.pan.injEq] at hsp
         obtain⟨rfl,rfl,rfl⟩:=hsp
         exact fin false hs
       · cases hsp
   · cases hsp
 · rename_i l as hsp
   cases hemp:(as.flatMap AV.refs).isEmpty with
   | false=>rw[hemp] at h;exact h.elim
   | true=>
   rw[hemp] at h
   simp only[cond_true] at h
   obtain⟨h1,h2,h3,h4,h5,h6⟩:=h
   unfold spOf at hsp
   split at hsp
   · split at hsp
     · split at hsp
       · split at hsp
         · split at hsp<;>cases hsp
         · split at hsp
           · split at hsp<;>cases hsp
           · cases hsp
         · cases hsp
       · cases hsp
     · cases hsp
   · split at hsp
     · split at hsp<;>cases hsp
     · cases hsp
   · rename_i c0 ho
     split at hsp
     rotate_left
     · cases hsp
     rename_i f hcal
     split at hsp
     · rename_i l' hfv
       simp only[Option.some.injEq,Sp.yld.injEq] at hsp
       obtain⟨rfl,rfl⟩:=hsp
       have hf:=ev_of hi.rel.gl hi.sl f
       rw[hfv] at hf
       obtain⟨p,q,e1,v1',v2'⟩:=hf
       simp only[List.cons.injEq,and_true] at e1
       have e0:p=[]:=v1'
       have e0':q=[]:=v2'
       subst e0
       subst e0'
       have vm:∀(l:List Operand),VLs S w β s.H (l.map (evA s.slots)) (l.map a.eval):=by
        intro l
        induction l with
        | nil=>exact rfl
        | cons z l ih=>exact⟨_,_,rfl,ev_of hi.rel.gl hi.sl z,ih⟩
       rw[h2] at hb
       obtain⟨f',tmps,assign,body,y1,y2⟩:=hY.1 s.y M S0 w0 s.slots s.H S β a w (c0.args.toList.map a.eval) hb hi h3 (by rw[←h4];exact vm _) (by rw[←h4];exact List.isEmpty_iff.1 hemp)
       refine⟨fun _ _=>trivial,?_⟩
       rw[Oper.semAt_eq _ _ _ (fun c hc=>by rw[ho] at hc;cases hc)]
       have ey:(c0.args.toList.map a.eval).toArray=c0.args.map a.eval:=by
        apply Array.toList_inj.1
        simp
       rw[ey,←h1] at y1
       rw[←h1] at y2
       unfold execOp
       simp only[ho,hcal,resolve,invoke,e1,Deferred.ofValue,Sem.run_bind,Sem.run_pure,Result.andThen_ok,y1]
       have e3:([]:List Value).toArray++c0.args.map a.eval=c0.args.map a.eval:=by simp
       first
        | (rw[e3,y1])
        | skip
       rw[Oper.uponIn_round]
       refine⟨fun hh=>by simp[Fence.wide] at hh,RoundIn.mono (show RoundIn (Wd none) 0 P l' f' tmps assign body w _ from y2) ?_⟩
       rintro e w' ⟨b,rfl,M',S0',w0',g1,g2⟩
       obtain⟨q1,q2⟩:=put_sl (d:=o.dst) (v:=.bool b) (u:=.bool b) g2.len g2.sl ⟨_,rfl,rfl⟩
       have fin:InvB B π (St.mk (putSlot s.slots o.dst (.bool b)) s.obs s.n (s.y+1) (!b)) S β (a.put o.dst (.bool b)) w':=⟨M',S0',w0',g1,g2.rel,q1,q2,by cases o.dst<;>exact g2.nod,g2.pin⟩
       cases b with
       | true=>exact hk (St.mk (putSlot s.slots o.dst (.bool true)) s.obs s.n (s.y+1) false) S β _ w' fin rfl h5
       | false=>exact hk (St.mk (putSlot s.slots o.dst (.bool false)) s.obs s.n (s.y+1) true) S β _ w' fin rfl h6
     · split at hsp
       · cases hsp
       · split at hsp
         · simp only at hsp
           split at hsp
           · cases hsp
           · split at hsp<;>cases hsp
         · cases hsp
     · cases hsp
   · cases hsp
theorem goneSt_live (s:St) (y:Nat) (st:Bool) (k:Nat):((goneSt s y st).H k).live=false:=by
 simp only[St.H,goneSt,List.getD,List.getElem?_map]
 cases s.obs[k]? <;> rfl
theorem dlg_sound (he:EnvOk P env) (hT:TabOk P T) {B:Bs} (hY:YieldOk P env B π) {s:St} {K:Act→World→Prop} {Q:Exit→Act→World→Prop} (hi:InvB B π s S β a w) {l:Nat} {g:FuncId} {as bs:List AV} {perm:List Nat} {t:TellsI}
 (hd:dlgOf T env (evA s.slots) s.H o=some (l,g,as,bs,perm,t)) (hl:l=env.yl) (hit:env.isIt=true) (hst:s.stop=false) (hpre:∀p∈t.pre,p) (hcnt:s.y+t.cnt=env.ycnt) (harg:∀i,i<t.cnt→t.arg i=env.yarg (s.y+i))
 (hk:∀i st S' β' a' w',(st=true∨i=t.cnt)→InvB B π (goneSt s (s.y+i) st) S' β' a' w'→(goneSt s (s.y+i) st).n=s.n→K a' w'):o.wpIn (Wd ρ) 0 P a w K Q:=by
 obtain⟨M,S0,w0,hb,hi⟩:=hi
 unfold dlgOf at hd
 split at hd
 rotate_left
 · cases hd
 rename_i c0 ho
 split at hd
 rotate_left
 · cases hd
 rename_i f hcal
 split at hd
 rotate_left
 · cases hd
 rename_i g0 x y hfv
 cases hch:(x.chain&&y.chain) with
 | false=>rw[hch] at hd;cases hd
 | true=>
 rw[hch] at hd
 simp only[cond_true] at hd
 simp only[Bool.and_eq_true] at hch
 split at hd
 rotate_left
 · cases hd
 rename_i l0 hlast
 generalize hperm:reachH s.H 8 (((x.toList++c0.args.toList.dropLast.map (evA s.slots))++y.toList).flatMap AV.refs) []=perm0 at hd
 have hlive0:∀k∈perm0,(s.H k).live=true:=by rw[←hperm];exact reachH_live 8 _ [] (by simp)
 cases hnb:nodupB perm0 with
 | false=>rw[hnb] at hd;cases hd
 | true=>
 rw[hnb] at hd
 simp only[cond_true] at hd
 split at hd
 rotate_left
 · cases hd
 rename_i t0 hiter
 simp only[Option.some.injEq,Prod.mk.injEq] at hd
 obtain⟨rfl,rfl,rfl,rfl,rfl,rfl⟩:=hd
 have hnd:=nodup_of _ hnb
 have hA:=he.iter _ _ _ _ _ hiter hpre
 obtain⟨fn,k1,k2,k3⟩:=hA.known
 have hf:=ev_of hi.rel.gl hi.sl f
 rw[hfv] at hf
 obtain⟨vp,vq,e1,v1',v2'⟩:=hf
 simp only[List.cons.injEq,and_true] at e1
 have v1:=VL.list_of x vp hch.1 v1'
 have v2:=VL.list_of y vq hch.2 v2'
 obtain⟨zo,hz1,hz2⟩:=Option.map_eq_some_iff.1 hlast
 have hsplit:c0.args.toList=c0.args.toList.dropLast++[zo]:=by
  obtain⟨ys,hys⟩:=List.getLast?_eq_some_iff.1 hz1
  rw[hys,List.dropLast_concat]
 have vz:=ev_of hi.rel.gl hi.sl zo
 rw[hz2] at vz
 obtain⟨zp,zq,ez,vz1,vz2⟩:=vz
 simp only[List.cons.injEq,and_true] at ez
 have ez1:zp=[]:=vz1
 have ez2:zq=[]:=vz2
 subst ez1
 subst ez2
 have vm:∀(l:List Operand),VLs S w β s.H (l.map (evA s.slots)) (l.map a.eval):=by
  intro l
  induction l with
  | nil=>exact rfl
  | cons z l ih=>exact⟨_,_,rfl,ev_of hi.rel.gl hi.sl z,ih⟩
 have va:=VLs.append _ _ _ _ v1 (vm c0.args.toList.dropLast)
 have hhand:=hi.rel.hand (S1:=S) hnd (fun _ hb=>hb) (fun b hb=>.inl hb)
 have hva:=VLs.ren (perm:=perm0) _ _ va
 have hvc:=VLs.ren (perm:=perm0) _ _ v2
 rw[←newsH_ren] at hva hvc
 have hMof:∀b,Mof (renC β perm0) (perm0.map fun k=>(s.H k).ren perm0) b→∃k,(s.H k).live=true∧(β k).has b:=by
  rintro b ⟨i,hl,hg⟩
  rw[newsH_ren] at hl
  unfold renH at hl
  unfold renC at hg
  cases e:perm0[i]? with
  | none=>rw[e] at hl;cases hl
  | some k=>rw[e] at hl hg;exact⟨k,hlive0 k (List.mem_of_getElem? e),hg⟩
 rw[hst] at hb
 obtain⟨hr,hdl⟩:=hY.2 hit
 have hcalls:=hdl s.y M S0 w0 s.slots s.H S β a w _ _ _ _ _ _ _ _ _ hb hi hA hcnt harg hhand hva hvc hMof
 refine wpIn_of_wp (fun c hc=>by rw[ho] at hc;cases hc) ?_
 unfold Oper.wp execOp
 have eargs:vp.toArray++c0.args.map a.eval++vq.toArray=((vp++c0.args.toList.dropLast.map a.eval)++[Value.func (.yield env.yl) #[] #[]]++vq).toArray:=by
  apply Array.toList_inj.1
  have e2:c0.args.toList.map a.eval=c0.args.toList.dropLast.map a.eval++[Value.func (.yield env.yl) #[] #[]]:=by
   conv=>lhs;rw[hsplit]
   rw[List.map_append,List.map_singleton,ez,←hl]
  rw[Array.toList_append,Array.toList_append,Array.toList_map,e2]
  show vp++(c0.args.toList.dropLast.map a.eval++[Value.func (.yield env.yl) #[] #[]])++vq=(vp++c0.args.toList.dropLast.map a.eval)++[Value.func (.yield env.yl) #[] #[]]++vq
  simp only[List.append_assoc]
 simp only[ho,hcal,resolve,invoke,e1,Deferred.ofValue,Sem.run_bind,Sem.run_pure,Result.andThen_ok,eargs,run_enter k1 k2 k3]
 rw[Oper.upon_enter]
 refine Calls.mono hcalls ?_
 rintro e w' ⟨u,rfl,i,st,hor,M',S0',S',w0',hb',hrel⟩
 have hno:a.defers=[]:=hi.nod.1 hr
 refine hk i st S' β (a.put o.dst u) w' hor ⟨M',S0',w0',hb',hrel _ (goneSt_live s _ _),?_,fun t => ?_,⟨fun _ => ?_,?_⟩,fun k hk => ?_⟩ rfl
 · have h0:=hi.len
   show (s.slots.map fun _=>AV.undef).length≤_
   rw[List.length_map]
   cases o.dst<;>simp[Act.put,h0]
 · have:(goneSt s (s.y+i) st).slots.getD t .undef=.undef:=by
    simp only[goneSt,List.getD,List.getElem?_map]
    cases s.slots[t]? <;> rfl
   rw[this]
   exact⟨_,rfl,trivial⟩
 · cases o.dst<;>exact hno
 · have:(a.put o.dst u).defers=[]:=by cases o.dst<;>exact hno
   rw[this];trivial
 · have hp:=hi.pin k hk
   by_cases hlt:k<s.obs.length
   · have:(goneSt s (s.y+i) st).H k=.dead:=by
      simp only[St.H,goneSt,List.getD,List.getElem?_map,List.getElem?_eq_getElem hlt,Option.map_some,Option.getD_some]
     rw[this]
     exact ObExt.dead' _ _ _
   · have e2:s.H k=.none:=by simp only[St.H,List.getD];rw[List.getElem?_eq_none (by omega)];rfl
     have e3:(goneSt s (s.y+i) st).H k=.none:=by
      simp only[St.H,goneSt,List.getD,List.getElem?_map]
      rw[List.getElem?_eq_none (by omega)];rfl
     rw[e2] at hp
     rw[e3]
     exact hp
theorem opO_sound (he:EnvOk P env) (hT:TabOk P T) {B:Bs} (hY:YieldOk P env B π) {j:Nat} {s:St} {k:St→Prop} {kp:Value→St→Prop} {K:Act→World→Prop} {Q:Exit→Act→World→Prop} (hi:InvB B π s S β a w) (h:opO T env o j s k kp)
 (hk:∀s' S' β' a' w',InvB B π s' S' β' a' w'→s'.n=s.n→k s'→K a' w')
 (hp:∀x s' S' β' a' w',InvB B π s' S' β' a' w'→s'.n=s.n→kp x s'→Q (.panic [{v:=x,recovered:=false}]) a' w'):o.wpIn (Wd ρ) 0 P a w K Q:=by
 unfold opO at h
 split at h
 · rename_i l g as bs perm t hd
   obtain⟨hl,hit,hst,h⟩:=h
   obtain⟨hpre,hy0,hcnt,harg,hk1,hk2⟩:=guardA_spec _ _ h
   exact dlg_sound he hT hY hi hd hl hit hst hpre (by rw[hy0,Nat.zero_add];exact hcnt) (fun i _=>by rw[hy0,Nat.zero_add,harg]) (fun i st S' β' a' w' hor hi' hn=>hk _ S' β' a' w' hi' hn (by
    rcases hor with h | h
    · rw[h];exact hk2 _
    · rw[h]
      cases st with
      | true=>exact hk2 _
      | false=>rw[hy0,Nat.zero_add];exact hk1))
 split at h
 · exact opO1_sound he hT hY hi h hk hp
 rename_i q m n seen len hn
 obtain⟨hlen,h1,h2⟩:=h
 obtain⟨M,S0,w0,hb,hi⟩:=hi
 unfold nxtOf at hn
 split at hn
 rotate_left
 · cases hn
 rename_i it ho
 split at hn
 rotate_left
 · cases hn
 rename_i k' hit
 split at hn
 rotate_left
 · cases hn
 rename_i m' n' seen' cur hk'
 split at hn
 rotate_left
 · cases hn
 rename_i ag ty es hm
 simp only[Option.some.injEq,Prod.mk.injEq] at hn
 obtain⟨rfl,rfl,rfl,rfl,rfl⟩:=hn
 refine wpIn_of_wp (fun c hc=>by rw[ho] at hc;cases hc) ?_
 rcases next_of (P:=P) hi.rel (ev_of hi.rel.gl hi.sl it) hit hk' hm hlen o.type with ⟨q1,q2⟩ | ⟨j',q1,q2,w',u1,u2,q3,q4,q5⟩
 · refine wp_val (s:=Instr.next (a.eval it) false o.type) (by simp only[execOp,ho]) q2 ?_
   obtain⟨r1,r2⟩:=put_sl (d:=o.dst) (v:=.tuple (.cons (.bool false) .nl)) (u:=.tuple #[.bool false]) hi.len hi.sl ⟨[.bool false],rfl,_,_,rfl,⟨_,rfl,rfl⟩,rfl⟩
   exact hk (s.put o.dst (.tuple (.cons (.bool false) .nl)) []) S β _ w ⟨M,S0,w0,hb,hi.rel,r1,r2,by cases o.dst<;>exact hi.nod,hi.pin⟩ rfl (h2 q1)
 · refine wp_val (s:=Instr.next (a.eval it) false o.type) (by simp only[execOp,ho]) q3 ?_
   obtain⟨r1,r2⟩:=put_sl (d:=o.dst) hi.len (fun t=>VL.ext q5 _ _ (hi.sl t)) (v:=.tuple (.cons (.bool true) (.cons .undef (.cons .undef .nl)))) (u:=.tuple #[.bool true,u1,u2]) ⟨[.bool true,u1,u2],rfl,_,_,rfl,⟨_,rfl,rfl⟩,_,_,rfl,⟨_,rfl,trivial⟩,_,_,rfl,⟨_,rfl,trivial⟩,rfl⟩
   have hlt:k'.blt s.obs.length=true:=by
    rw[Nat.blt_eq]
    by_cases hh:k'<s.obs.length
    · exact hh
    · simp only[St.H,List.getD,List.getElem?_eq_none (Nat.le_of_not_lt hh)] at hk'
      cases hk'
   have hok:okUpd s.obs.length [(k',.mit m' n' (seen'++[j']) j')]=true:=by
    simp[okUpd,hlt]
   refine hk (s.put o.dst (.tuple (.cons (.bool true) (.cons .undef (.cons .undef .nl)))) [(k',.mit m' n' (seen'++[j']) j')]) S β _ w' ⟨M,S0,w0,hb,?_⟩ rfl (h1 j' q1 q2)
   rw[putObs_H _ _ _ _ hok]
   exact⟨q4,r1,r2,by cases o.dst<;>exact hi.nod.mono q5.hS,fun k hk=>(hi.pin k hk).trans (q5.hO k)⟩
theorem opsO_sound (he:EnvOk P env) (hT:TabOk P T) {B:Bs} (hY:YieldOk P env B π) {ops:Array Oper} {Q:Exit→Act→World→Prop} {k:St→Prop} {kp:Value→St→Prop}:∀(l:List Nat) (s:St) (S:Nat→Prop) (β:Nat→Cr) (a:Act) (w:World),InvB B π s S β a w→opsO T env ops l s k kp →
 (∀s' S' β' a' w',InvB B π s' S' β' a' w'→s'.n=s.n→k s'→Q .normal a' w') →
 (∀x s' S' β' a' w',InvB B π s' S' β' a' w'→s'.n=s.n→kp x s'→Q (.panic [{v:=x,recovered:=false}]) a' w')→wpOpsIn (Wd ρ) 0 P ops Q l a w
 | [],s,S,β,a,w,hi,h,hk,_=>hk s S β a w hi rfl h
 | i::l,s,S,β,a,w,hi,h,hk,hp=>by
  simp only[opsO] at h
  split at h
  · cases h
  rename_i o ho
  split at h
  · cases h
  rename_i b hb
  have hw:Region.wanted o (yielded ops a.tmps)=b:=by obtain⟨M,S0,w0,_,hi⟩:=hi;exact wanted_of hi hb
  simp only[wpOpsIn,ho,hw]
  cases b with
  | false=>
   simp only[cond_false,fixG_eq hb] at h
   simp only[Bool.false_eq_true,if_false]
   refine⟨fun _ _=>trivial,opsO_sound he hT hY l _ S β _ w ?_ h hk hp⟩
   obtain⟨M,S0,w0,hb,hi⟩:=hi
   exact⟨M,S0,w0,hb,skip_sound hi o.dst⟩
  | true=>
   simp only[cond_true,fixG_eq hb] at h
   simp only[if_true]
   exact opO_sound he hT hY hi h (fun s' S' β' a' w' hi' hn hh=>opsO_sound he hT hY l s' S' β' a' w' hi' hh (fun s2 S2 β2 a2 w2 g1 g2=>hk s2 S2 β2 a2 w2 g1 (g2.trans hn)) (fun x s2 S2 β2 a2 w2 g1 g2=>hp x s2 S2 β2 a2 w2 g1 (g2.trans hn))) hp
end
end Go.Proofs.YtkpjcmiijlpcaaaDoor.Aw
