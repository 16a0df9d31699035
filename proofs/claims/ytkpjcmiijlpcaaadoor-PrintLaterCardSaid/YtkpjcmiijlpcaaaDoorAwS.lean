/- An abstract program logic over the model, eighteenth part: a region whose order is drawn. -/
import Derived.Test.YtkpjcmiijlpcaaaDoorAwQ
namespace Go.Proofs.YtkpjcmiijlpcaaaDoor.Aw
open Go
def predsOf (ops:Array Oper) (i:Nat):List Nat:=match ops[i]? with
 | some o=>(o.after.toList.filter (Region.binds .any)).map (·.on)
 | none=>[]
def maskOf:List Nat→Nat
 | []=>0
 | k::l=>Nat.lor (Nat.shiftLeft 1 k) (maskOf l)
def looked (tab:List (Nat×Nat)) (i:Nat):Nat:=(tab.lookup i).getD 0
def orAll (tab:List (Nat×Nat)):List Nat→Nat
 | []=>0
 | p::l=>Nat.lor (looked tab p) (orAll tab l)
def ancGo (ops:Array Oper):List Nat→List (Nat×Nat)→List (Nat×Nat)
 | [],tab=>tab
 | i::l,tab=>ancGo ops l ((i,Nat.lor (maskOf (predsOf ops i)) (orAll tab (predsOf ops i)))::tab)
theorem bit_mask:∀(l:List Nat) (k:Nat),(maskOf l).testBit k=true↔k∈l
 | [],k=>by simp[maskOf]
 | x::l,k=>by
  have ih:=bit_mask l k
  show (Nat.shiftLeft 1 x ||| maskOf l).testBit k=true↔_
  rw[Nat.testBit_or,Bool.or_eq_true,ih,List.mem_cons]
  have:(Nat.shiftLeft 1 x).testBit k=true↔k=x:=by
   show (1 <<< x).testBit k=true↔_
   rw[Nat.one_shiftLeft,Nat.testBit_two_pow]
   simp[eq_comm]
  rw[this]
theorem bit_all (tab:List (Nat×Nat)):∀(l:List Nat) (k:Nat),(orAll tab l).testBit k=true→∃p∈l,(looked tab p).testBit k=true
 | [],k,h=>by simp[orAll] at h
 | p::l,k,h=>by
  change (looked tab p ||| orAll tab l).testBit k=true at h
  rw[Nat.testBit_or,Bool.or_eq_true] at h
  rcases h with h | h
  · exact⟨p,by simp,h⟩
  · obtain⟨q,hq,h⟩:=bit_all tab l k h
    exact⟨q,by simp[hq],h⟩
theorem bit_apart {l m:List Nat} (h:Nat.beq (Nat.land (maskOf l) (maskOf m)) 0=true):∀k∈l,k∉m:=by
 intro k hl hm
 have e:maskOf l &&& maskOf m=0:=Nat.eq_of_beq_eq_true h
 have:(maskOf l &&& maskOf m).testBit k=true:=by
  rw[Nat.testBit_and,(bit_mask l k).2 hl,(bit_mask m k).2 hm];rfl
 rw[e] at this
 simp at this
def pickGo (ops:Array Oper):Nat→List Nat→List Nat→List Nat
 | 0,_,d=>d.reverse
 | f+1,todo,d=>match todo.find? fun i=>(predsOf ops i).all d.contains with
  | some i=>pickGo ops f (todo.erase i) (i::d)
  | none=>d.reverse
def orderOf (ops:Array Oper):List Nat:=pickGo ops ops.size (List.range ops.size) []
def befGo (ops:Array Oper):List Nat→List Nat→Bool
 | [],_=>true
 | i::l,d=>(predsOf ops i).all d.contains && !d.contains i&&befGo ops l (i::d)
def okOrd (ops:Array Oper) (ord:List Nat):Bool:=(List.range ops.size).all ord.contains&&befGo ops ord []
def disj (l m:List Nat):Bool:=l.all fun k => !m.contains k
def looksOf (ops:Array Oper) (i:Nat):List Nat:=match ops[i]? with
 | some o=>o.looksAt ops
 | none=>[]
def dstOf (ops:Array Oper) (i:Nat):List Nat:=match ops[i]? with
 | some o=>o.dst.toList
 | none=>[]
def effR (ok:Bool) (x:Rc):List Nat:=bif ok then x.reads.filter fun k => !x.soft.contains k else x.reads
def softOk (tr:List Rc):Bool:=disj (tr.flatMap Rc.soft) (tr.flatMap Rc.hard)
def apartRc (ok:Bool) (ops:Array Oper) (x y:Rc):Bool:=
 Nat.beq (Nat.land (maskOf (dstOf ops x.i)) (maskOf (looksOf ops y.i))) 0&&Nat.beq (Nat.land (maskOf (dstOf ops x.i)) (maskOf (dstOf ops y.i))) 0&&Nat.beq (Nat.land (maskOf (dstOf ops y.i)) (maskOf (looksOf ops x.i))) 0 &&
  disj x.keys (effR ok y++y.keys)&&disj y.keys (effR ok x)
def indepAll (ok:Bool) (ops:Array Oper) (tab:List (Nat×Nat)):List Rc→Bool
 | []=>true
 | y::l=>(l.all fun x=>(looked tab y.i).testBit x.i||apartRc ok ops x y)&&indepAll ok ops tab l
def regionA (T:Tab) (env:Env) (ops:Array Oper) (draw:Bool) (s:St) (k:St→Prop) (kp:Value→St→Prop):Prop:=
 bif draw then (bif okOrd ops (orderOf ops) then
  opsA T env ops (orderOf ops) s [] fun s' tr=>bif indepAll (softOk tr) ops (ancGo ops (orderOf ops) []) tr then k s' else False else False)
 else opsO T env ops (List.range ops.size) s k kp
theorem semOp_congr {T:Tab} {env:Env} {ev ev':Operand→AV} {H:Nat→Ob} {nid:Nat} (o:Oper) (h:∀x∈o.op.operands,ev x=ev' x):semOp T env ev H nid o=semOp T env ev' H nid o∧readsOf ev H o=readsOf ev' H o:=by
 unfold semOp readsOf
 cases ho:o.op<;>simp only[ho,Op.operands] at h ⊢
 case call c=>
  have hargs:c.args.toList.map ev=c.args.toList.map ev':=List.map_congr_left fun x hx=>h x (by simp[Call.operands,Array.mem_toList_iff.1 hx])
  have hreads:(c.args.toList.flatMap fun x=>(ev x).refs)=c.args.toList.flatMap fun x=>(ev' x).refs:=by
   have e:∀e:Operand→AV,(c.args.toList.flatMap fun x=>(e x).refs)=(c.args.toList.map e).flatMap AV.refs:=fun e=>by rw[List.flatMap_map]
   rw[e ev,e ev',hargs]
  cases hc:c.callee with
  | value f=>
   have hf:ev f=ev' f:=h f (by simp[Call.operands,hc])
   simp only[hargs,hreads,hf]
   exact⟨trivial,trivial⟩
  | invoke r m=>exact⟨rfl,rfl⟩
  | builtin b=>simp only[hargs,hreads];exact⟨trivial,trivial⟩
 case build t ps=>
  have e:(ps.toList.map fun p=>(p.1,ev p.2))=ps.toList.map fun p=>(p.1,ev' p.2):=List.map_congr_left fun p hp=>by rw[h p.2 (by simp;exact⟨p.1,Array.mem_toList_iff.1 hp⟩)]
  exact⟨by rw[e],trivial⟩
 case buildSlice t n ps=>
  have e:(ps.toList.map fun p=>(p.1,ev p.2))=ps.toList.map fun p=>(p.1,ev' p.2):=List.map_congr_left fun p hp=>by rw[h p.2 (by simp;exact⟨p.1,Array.mem_toList_iff.1 hp⟩)]
  exact⟨by rw[e],trivial⟩
 case makeFunc f x y=>
  have e1:x.toList.map ev=x.toList.map ev':=List.map_congr_left fun z hz=>h z (by simp[Array.mem_toList_iff.1 hz])
  have e2:y.toList.map ev=y.toList.map ev':=List.map_congr_left fun z hz=>h z (by simp[Array.mem_toList_iff.1 hz])
  exact⟨by rw[e1,e2],trivial⟩
 case slice t x lo hi mx=>
  cases mx with
  | some m=>
   cases lo with
   | none=>cases hi<;>exact⟨rfl,by simp only[h x (by simp)]⟩
   | some l=>
    cases hi with
    | none=>exact⟨rfl,by simp only[h x (by simp)]⟩
    | some u=>
     simp only[h x (by simp),h l (by simp),h u (by simp),h m (by simp)]
     exact⟨trivial,trivial⟩
  | none=>
   have e1:lo.map ev=lo.map ev':=by cases lo with | none=>rfl | some z=>simp only[Option.map_some,h z (by simp)]
   have e2:hi.map ev=hi.map ev':=by cases hi with | none=>rfl | some z=>simp only[Option.map_some,h z (by simp)]
   simp only[e1,e2,h x (by simp)]
   exact⟨trivial,trivial⟩
 case makeSlice t x y=>simp only[h x (by simp),h y (by simp)];exact⟨trivial,trivial⟩
 case pick x y z=>simp only[h x (by simp),h y (by simp),h z (by simp)];exact⟨trivial,trivial⟩
 case store t x y=>simp only[h x (by simp),h y (by simp)];exact⟨trivial,trivial⟩
 case binOp op t x y t'=>simp only[h x (by simp),h y (by simp)];exact⟨trivial,trivial⟩
 case indexAddr t x y=>simp only[h x (by simp),h y (by simp)];exact⟨trivial,trivial⟩
 case index t x y=>simp only[h x (by simp),h y (by simp)];exact⟨trivial,trivial⟩
 case makeMap t r=>
  have e1:r.map ev=r.map ev':=by cases r with | none=>rfl | some z=>simp only[Option.map_some,h z (by simp)]
  simp only[e1]
  exact⟨trivial,trivial⟩
 case lookup t x i b=>
  cases b with
  | true=>exact⟨rfl,by simp only[h x (by simp)]⟩
  | false=>simp only[h x (by simp),h i (by simp)];exact⟨trivial,trivial⟩
 case mapUpdate t x y z=>simp only[h x (by simp),h y (by simp),h z (by simp)];exact⟨trivial,trivial⟩
 case mapEntry t x y=>simp only[h x (by simp),h y (by simp)];exact⟨trivial,trivial⟩
 case entryStore t x y z=>simp only[h x (by simp),h y (by simp),h z (by simp)];exact⟨trivial,trivial⟩
 all_goals first
  | exact⟨trivial,trivial⟩
  | (simp only[h _ (by simp;rfl)];exact⟨trivial,trivial⟩)
structure RR where
 c:Rc
 o:Oper
 v:AV
 upd:List (Nat×Ob)
 nid:Nat
def slotsF (sl:List AV) (rs:List RR):List AV:=rs.foldl (fun sl r=>putSlot sl r.o.dst r.v) sl
def HF (H:Nat→Ob) (rs:List RR):Nat→Ob:=rs.foldl (fun H r=>updH H r.upd) H
def StepA (T:Tab) (env:Env) (ops:Array Oper) (sl:List AV) (H:Nat→Ob) (r:RR):Prop:=
 ops[r.c.i]? = some r.o∧r.c.keys=r.upd.map (·.1) ∧
 ((wantedA ops sl r.o=some true∧∃res,semOp T env (evA sl) H r.nid r.o=some res∧(∀g∈res.gs,g)∧r.v=res.v∧r.upd=res.upd∧r.c.reads=readsOf (evA sl) H r.o∧r.c.soft=softOf (evA sl) r.o∧r.c.hard=hardOf r.nid r.o res.upd∧(∀p∈res.upd,r.nid≤p.1→H p.1=.none)) ∨
  (wantedA ops sl r.o=some false∧r.v=.tuple .nl∧r.upd=[]))
def Chain (T:Tab) (env:Env) (ops:Array Oper):List AV→(Nat→Ob)→List RR→Prop
 | _,_,[]=>True
 | sl,H,r::rs=>StepA T env ops sl H r∧Chain T env ops (putSlot sl r.o.dst r.v) (updH H r.upd) rs
theorem Chain.split {T:Tab} {env:Env} {ops:Array Oper}:∀(l:List RR) (r:RR) (m:List RR) (sl:List AV) (H:Nat→Ob),Chain T env ops sl H (l++r::m)→StepA T env ops (slotsF sl l) (HF H l) r
 | [],_,_,_,_,h=>h.1
 | _::l,r,m,_,_,h=>Chain.split l r m _ _ h.2
theorem ops_chain {T:Tab} {env:Env} {ops:Array Oper} {k:St→List Rc→Prop}:∀(l:List Nat) (s:St) (tr:List Rc),opsA T env ops l s tr k →
 ∃rs s',Chain T env ops s.slots s.H rs∧rs.map (·.c.i)=l∧s'.slots=slotsF s.slots rs∧s'.H=HF s.H rs∧(s'.n=s.n∧s'.y=s.y∧s'.stop=s.stop)∧k s' ((rs.map (·.c)).reverse++tr)
 | [],s,tr,h=>⟨[],s,trivial,rfl,rfl,rfl,⟨rfl,rfl,rfl⟩,h⟩
 | i::l,s,tr,h=>by
  simp only[opsA] at h
  split at h
  · cases h
  rename_i o ho
  split at h
  · cases h
  rename_i b hb
  cases b with
  | false=>
   simp only[cond_false,fixG_eq hb] at h
   obtain⟨rs,s',h1,h2,h3,h4,h6,h5⟩:=ops_chain l _ _ h
   refine⟨⟨⟨i,[],[],[],[]⟩,o,.tuple .nl,[],s.obs.length⟩::rs,s',⟨⟨ho,rfl,.inr ⟨hb,rfl,rfl⟩⟩,h1⟩,by simp[h2],h3,h4,h6,?_⟩
   simpa using h5
  | true=>
   simp only[cond_true,fixG_eq hb] at h
   unfold opA at h
   split at h
   rotate_left
   · cases h
   rename_i r hr
   cases hok:okUpd s.obs.length r.upd with
   | false=>rw[hok] at h;exact h.elim
   | true=>
    rw[hok] at h
    simp only[cond_true] at h
    obtain⟨g1,g2⟩:=guardA_spec _ _ h
    obtain⟨rs,s',h1,h2,h3,h4,h6,h5⟩:=ops_chain l _ _ g2
    rw[putObs_H _ _ _ _ hok] at h1 h4
    refine⟨⟨⟨i,readsOf (evA s.slots) s.H o,r.upd.map (·.1),softOf (evA s.slots) o,hardOf s.obs.length o r.upd⟩,o,r.v,r.upd,s.obs.length⟩::rs,s',⟨⟨ho,rfl,.inl ⟨hb,r,hr,g1,rfl,rfl,rfl,rfl,rfl,?_⟩⟩,h1⟩,by simp[h2],h3,h4,h6,?_⟩
    · intro p _ hle
      simp only[St.H,List.getD]
      rw[List.getElem?_eq_none hle]
      rfl
    · simpa using h5
theorem slotsF_length:∀(rs:List RR) (sl:List AV),(slotsF sl rs).length=sl.length
 | [],_=>rfl
 | r::rs,sl=>by
  show (slotsF (putSlot sl r.o.dst r.v) rs).length=_
  rw[slotsF_length rs,putSlot_length]
theorem updH_out {H:Nat→Ob} {u:List (Nat×Ob)} {k:Nat} (h:k∉u.map (·.1)):updH H u k=H k:=by
 unfold updH
 have:u.lookup k=none:=by
  rw[List.lookup_eq_none_iff]
  intro p hp
  simp only[bne_iff_ne,ne_eq]
  intro e
  exact h (List.mem_map.2 ⟨p,hp,e.symm⟩)
 rw[this]
 rfl
theorem slots_filter {D:Nat→Bool} {t:Nat}:∀(rs:List RR) (sl sl':List AV),sl.length=sl'.length→sl.getD t .undef=sl'.getD t .undef→(∀q∈rs,D q.c.i=false→q.o.dst≠some t)→(slotsF sl (rs.filter fun r=>D r.c.i)).getD t .undef=(slotsF sl' rs).getD t .undef
 | [],sl,sl',_,h,_=>h
 | r::rs,sl,sl',hl,h,hq=>by
  have hr:=fun q hq'=>hq q (List.mem_cons_of_mem _ hq')
  cases hd:D r.c.i with
  | true=>
   rw[List.filter_cons_of_pos (p:=fun r:RR=>D r.c.i) hd]
   refine slots_filter rs _ _ (by rw[putSlot_length,putSlot_length];exact hl) ?_ hr
   rw[putSlot_get,putSlot_get,hl,h]
  | false=>
   rw[List.filter_cons_of_neg (by rw[hd];simp)]
   refine slots_filter rs _ _ (by rw[putSlot_length];exact hl) ?_ hr
   rw[putSlot_get,if_neg (fun e=>hq r (by simp) hd e.1),h]
theorem slots_skip {t:Nat}:∀(rs:List RR) (sl:List AV),(∀q∈rs,q.o.dst≠some t)→(slotsF sl rs).getD t .undef=sl.getD t .undef
 | [],_,_=>rfl
 | r::rs,sl,h=>by
  refine (slots_skip rs _ fun q hq=>h q (List.mem_cons_of_mem _ hq)).trans ?_
  rw[putSlot_get,if_neg (fun e=>h r (by simp) e.1)]
theorem H_filter {D:Nat→Bool} {k:Nat}:∀(rs:List RR) (H H':Nat→Ob),H k=H' k→(∀q∈rs,D q.c.i=false→k∉q.upd.map (·.1))→HF H (rs.filter fun r=>D r.c.i) k=HF H' rs k
 | [],_,_,h,_=>h
 | r::rs,H,H',h,hq=>by
  have hr:=fun q hq'=>hq q (List.mem_cons_of_mem _ hq')
  cases hd:D r.c.i with
  | true=>
   rw[List.filter_cons_of_pos (p:=fun r:RR=>D r.c.i) hd]
   refine H_filter rs _ _ ?_ hr
   show updH H r.upd k=updH H' r.upd k
   unfold updH
   rw[h]
  | false=>
   rw[List.filter_cons_of_neg (by rw[hd];simp)]
   refine H_filter rs _ _ ?_ hr
   show H k=updH H' r.upd k
   rw[updH_out (hq r (by simp) hd),h]
theorem H_skip {k:Nat}:∀(rs:List RR) (H:Nat→Ob),(∀q∈rs,k∉q.upd.map (·.1))→HF H rs k=H k
 | [],_,_=>rfl
 | r::rs,H,h=>by
  refine (H_skip rs _ fun q hq=>h q (List.mem_cons_of_mem _ hq)).trans ?_
  exact updH_out (h r (by simp))
theorem slots_put {d:Option Tmp} {v:AV} {t:Nat}:∀(rs:List RR) (sl sl':List AV),sl'.length=sl.length→sl'.getD t .undef=(if d=some t∧t<sl.length then v else sl.getD t .undef)→(∀q∈rs,∀e,d=some e→q.o.dst≠some e) →
 (slotsF sl' rs).getD t .undef=if d=some t∧t<sl.length then v else (slotsF sl rs).getD t .undef
 | [],_,_,_,h,_=>h
 | r::rs,sl,sl',hl,h,hq=>by
  have hr:=fun q hq'=>hq q (List.mem_cons_of_mem _ hq')
  have:=slots_put (d:=d) (v:=v) (t:=t) rs (putSlot sl r.o.dst r.v) (putSlot sl' r.o.dst r.v) (by rw[putSlot_length,putSlot_length];exact hl) (by
   rw[putSlot_get,putSlot_get,putSlot_length,hl,h]
   by_cases h1:d=some t∧t<sl.length
   · rw[if_pos h1,if_neg (fun e=>hq r (by simp) t h1.1 e.1),if_pos h1]
   · rw[if_neg h1]
     rw[if_neg h1]) hr
  rw[putSlot_length] at this
  exact this
theorem H_put {u:List (Nat×Ob)} {k:Nat}:∀(rs:List RR) (H H':Nat→Ob),H' k=updH H u k→(∀q∈rs,k∈u.map (·.1)→k∉q.upd.map (·.1))→HF H' rs k=updH (HF H rs) u k
 | [],_,_,h,_=>h
 | r::rs,H,H',h,hq=>by
  have hr:=fun q hq'=>hq q (List.mem_cons_of_mem _ hq')
  refine H_put rs (updH H r.upd) (updH H' r.upd) ?_ hr
  by_cases hk:k∈u.map (·.1)
  · rw[updH_out (hq r (by simp) hk),h]
    have e:updH H r.upd k=H k:=updH_out (hq r (by simp) hk)
    unfold updH at e ⊢
    rw[e]
  · rw[updH_out (u:=u) hk]
    unfold updH at h ⊢
    have e:u.lookup k=none:=by
     rw[List.lookup_eq_none_iff]
     intro p hp
     simp only[bne_iff_ne,ne_eq]
     intro e
     exact hk (List.mem_map.2 ⟨p,hp,e.symm⟩)
    rw[e] at h
    rw[h]
    rfl
theorem soft_keep {T:Tab} {env:Env} {ev:Operand→AV} {H:Nat→Ob} {nid:Nat} {o:Oper} {r:Res} (hs:semOp T env ev H nid o=some r) {p:Nat×Ob} (hp:p∈r.upd) (hh:p.1∉hardOf nid o r.upd):p.2.shape=(H p.1).shape:=by
 have base:(∀t x,o.op≠.load t x)→(∀t x y,o.op≠.store t x y)→False:=by
  intro h1 h2
  apply hh
  unfold hardOf
  split
  · rename_i t x ho;exact absurd ho (h1 t x)
  · rename_i t x y ho;exact absurd ho (h2 t x y)
  · exact List.mem_map.2 ⟨p,hp,rfl⟩
 have keep:hardOf nid o r.upd=(r.upd.filter fun p=>nid.ble p.1||p.2.isDead).map (·.1)→nid.ble p.1=false∧p.2.isDead=false:=by
  intro e
  rw[e] at hh
  rw[←Bool.or_eq_false_iff]
  cases hc:(nid.ble p.1||p.2.isDead) with
  | false=>rfl
  | true=>exact absurd (List.mem_map.2 ⟨p,List.mem_filter.2 ⟨hp,hc⟩,rfl⟩) hh
 cases ho:o.op with
 | load t x=>
  have hk:=keep (by unfold hardOf;rw[ho])
  simp only[semOp,ho] at hs
  split at hs
  · split at hs
    · obtain⟨v,_,h2⟩:=Option.bind_eq_some_iff.1 hs
      simp only[ok,Option.some.injEq] at h2
      rw[←h2] at hp;cases hp
    · cases hs
  · split at hs
    · obtain⟨v,_,h2⟩:=Option.bind_eq_some_iff.1 hs
      simp only[ok,Option.some.injEq] at h2
      rw[←h2] at hp;cases hp
    · rename_i e ty xs hH
      cases hc:env.takes.contains (o.dst.getD 0)
      · rw[hc] at hs
        obtain⟨v,_,h2⟩:=Option.bind_eq_some_iff.1 hs
        simp only[ok,Option.some.injEq] at h2
        rw[←h2] at hp;cases hp
      · rw[hc] at hs
        simp only[cond_true,semTake] at hs
        split at hs
        · split at hs
          · split at hs
            · simp only[Option.some.injEq] at hs
              rw[←hs] at hp
              simp only[List.mem_cons,List.not_mem_nil,or_false] at hp
              rcases hp with rfl | rfl
              · simp[Ob.shape,hH]
              · exact absurd hk.1 (by simp[Nat.ble_eq])
            · cases hs
          · cases hs
        · cases hs
    · cases hs
  · obtain⟨v,_,h2⟩:=Option.bind_eq_some_iff.1 hs
    simp only[ok,Option.some.injEq] at h2
    rw[←h2] at hp;cases hp
  · split at hs
    · obtain⟨v,_,h2⟩:=Option.bind_eq_some_iff.1 hs
      simp only[ok,Option.some.injEq] at h2
      rw[←h2] at hp;cases hp
    · cases hs
  · cases hs
 | store t x y=>
  have hk:=keep (by unfold hardOf;rw[ho])
  simp only[semOp,ho] at hs
  split at hs
  · split at hs
    · rename_i hH
      split at hs
      · split at hs
        · simp only[Option.some.injEq] at hs
          rw[←hs] at hp
          simp only[List.mem_cons,List.not_mem_nil,or_false] at hp
          subst hp
          simp[Ob.shape,hH]
        · cases hs
      · cases hs
    · cases hs
  · split at hs
    · rename_i hH
      split at hs
      · split at hs
        · split at hs
          · simp only[Option.some.injEq] at hs
            rw[←hs] at hp
            simp only[List.mem_cons,List.not_mem_nil,or_false] at hp
            subst hp
            simp[Ob.shape,hH]
          · cases hs
        · cases hs
      · cases hs
    · rename_i hH
      split at hs
      · split at hs
        · split at hs
          · simp only[Option.some.injEq] at hs
            rw[←hs] at hp
            simp only[List.mem_cons,List.not_mem_nil,or_false] at hp
            subst hp
            simp[Ob.shape,hH]
          · cases hs
        · cases hs
      · cases hs
    · rename_i hH
      split at hs
      · simp only[semGive] at hs
        split at hs
        · split at hs
          · split at hs
            · simp only[Option.some.injEq] at hs
              rw[←hs] at hp
              simp only[List.mem_cons,List.not_mem_nil,or_false] at hp
              rcases hp with rfl | rfl
              · simp[Ob.shape,hH]
              · simp[Ob.isDead] at hk
            · cases hs
          · cases hs
        · cases hs
      · cases hs
    · cases hs
  · cases hs
 | _=>exact (base (fun _ _=>by rw[ho];simp) (fun _ _ _=>by rw[ho];simp)).elim
theorem semOp_soft {T:Tab} {env:Env} {ev:Operand→AV} {H H':Nat→Ob} {nid:Nat} (o:Oper) (h:∀k∈readsOf ev H o,H' k=H k∨(k∈softOf ev o∧(H' k).shape=(H k).shape)):semOp T env ev H' nid o=semOp T env ev H nid o:=by
 by_cases hs:∃k,k∈softOf ev o∧H' k≠H k
 · obtain⟨k,hk,hne⟩:=hs
   unfold softOf at hk
   split at hk
   rotate_left
   · cases hk
   rename_i t x i ho
   split at hk
   rotate_left
   · cases hk
   rename_i k' hx
   simp only[List.mem_singleton] at hk
   subst hk
   have hsh:(H' k).shape=(H k).shape:=by
    rcases h k (by unfold readsOf;rw[ho];simp only[hx,AV.refs,List.mem_singleton]) with e | ⟨_,e⟩
    · exact absurd e hne
    · exact e
   simp only[semOp,ho,hx]
   split
   · rfl
   · rename_i e kk j hd hi
     cases h1:H k<;>cases h2:H' k<;>rw[h1,h2] at hsh<;>simp only[Ob.shape,Prod.mk.injEq] at hsh<;>first
      | rfl
      | (exfalso;obtain⟨e1,_⟩:=hsh;revert e1;decide)
      | (obtain⟨_,rfl,e3⟩:=hsh;simp only[e3])
      | (obtain⟨_,e2,e3⟩:=hsh;subst e2;simp only[e3])
   · rfl
 · refine semOp_local o fun k hk => ?_
   rcases h k hk with e | ⟨e,_⟩
   · exact e
   · by_cases hq:H' k=H k
     · exact hq
     · exact absurd ⟨k,e,hq⟩ hs
theorem shape_HF {k:Nat} {c:Nat×Ty×Nat}:∀(l:List RR) (H:Nat→Ob),(∀q∈l,∀p∈q.upd,p.1=k→p.2.shape=c)→(H k).shape=c→(HF H l k).shape=c
 | [],_,_,h=>h
 | r::l,H,hq,h=>by
  refine shape_HF l (updH H r.upd) (fun q hm=>hq q (List.mem_cons_of_mem _ hm)) ?_
  unfold updH
  cases hl:r.upd.lookup k with
  | none=>exact h
  | some o=>
   have:(k,o)∈r.upd:=by
    have:=List.lookup_eq_some_iff.1 hl
    obtain⟨l1,l2,e,_⟩:=this
    rw[e];simp
   exact hq r (by simp) (k,o) this rfl
theorem chain_soft {T:Tab} {env:Env} {ops:Array Oper} {k:Nat}:∀(rs:List RR) (sl:List AV) (H:Nat→Ob),Chain T env ops sl H rs→(∀q∈rs,k∉q.c.hard)→∀q∈rs,∀p∈q.upd,p.1=k→p.2.shape=(H k).shape
 | [],_,_,_,_,q,hq=>by cases hq
 | r::rs,sl,H,⟨hr,hc⟩,hh,q,hq=>by
  have hstep:∀p∈r.upd,p.1=k→p.2.shape=(H k).shape:=by
   intro p hp hpk
   obtain⟨_,_,hcase⟩:=hr
   rcases hcase with ⟨_,res,h1,h2,h3,h4,h5,h6,h7,h8⟩ | ⟨_,_,h2⟩
   · rw[h4] at hp
     have:=soft_keep h1 hp (by rw[←h7,hpk];exact hh r (by simp))
     rw[this,hpk]
   · rw[h2] at hp;cases hp
  rcases List.mem_cons.1 hq with rfl | hq
  · exact hstep
  · intro p hp hpk
    have h1:=chain_soft rs _ _ hc (fun q hm=>hh q (List.mem_cons_of_mem _ hm)) q hq p hp hpk
    rw[h1]
    exact shape_HF [r] H (fun q hm p hp e=>by simp only[List.mem_singleton] at hm;subst hm;exact hstep p hp e) rfl
end Go.Proofs.YtkpjcmiijlpcaaaDoor.Aw
namespace Go.Proofs.YtkpjcmiijlpcaaaDoor.Aw
open Go
structure Apart (ok:Bool) (ops:Array Oper) (x y:RR):Prop where
 a1:∀d,x.o.dst=some d→d∉y.o.looksAt ops
 a2:∀d,x.o.dst=some d→y.o.dst≠some d
 a3:∀d,y.o.dst=some d→d∉x.o.looksAt ops
 b1:∀k∈x.c.keys,k∉effR ok y.c
 b2:∀k∈x.c.keys,k∉y.c.keys
 b3:∀k∈y.c.keys,k∉effR ok x.c
theorem disj_spec {l m:List Nat} (h:disj l m=true):∀k∈l,k∉m:=by
 intro k hk hm
 have:=List.all_eq_true.1 h k hk
 simp[hm] at this
theorem apartRc_spec {ok:Bool} {ops:Array Oper} {x y:RR} (hx:ops[x.c.i]? = some x.o) (hy:ops[y.c.i]? = some y.o) (h:apartRc ok ops x.c y.c=true):Apart ok ops x y:=by
 unfold apartRc dstOf looksOf at h
 simp only[hx,hy,Bool.and_eq_true] at h
 obtain⟨⟨⟨⟨g1,g2⟩,g3⟩,h2⟩,h3⟩:=h
 refine⟨fun d hd=>bit_apart g1 d (by simp[hd]),fun d hd e=>bit_apart g2 d (by simp[hd]) (by simp[e]),fun d hd=>bit_apart g3 d (by simp[hd]),fun k hk hm=>disj_spec h2 k hk (by simp[hm]),fun k hk hm=>disj_spec h2 k hk (by simp[hm]),disj_spec h3⟩
theorem indep_pairs {ok:Bool} {ops:Array Oper} {tab:List (Nat×Nat)}:∀l:List Rc,indepAll ok ops tab l=true→l.Pairwise fun y x=>(looked tab y.i).testBit x.i=true∨apartRc ok ops x y=true
 | [],_=>.nil
 | y::l,h=>by
  simp only[indepAll,Bool.and_eq_true,List.all_eq_true,Bool.or_eq_true] at h
  exact .cons (fun x hx=>h.1 x hx) (indep_pairs l h.2)
def Closed (ops:Array Oper) (D:Nat→Bool):Prop:=∀i,D i=true→∀p∈predsOf ops i,D p=true
theorem anc_closed {ops:Array Oper} {D:Nat→Bool} (hD:Closed ops D):∀(l:List Nat) (tab:List (Nat×Nat)),(∀i,D i=true→∀x,(looked tab i).testBit x=true→D x=true)→∀i,D i=true→∀x,(looked (ancGo ops l tab) i).testBit x=true→D x=true
 | [],_,h=>h
 | j::l,tab,h=>anc_closed hD l _ (by
  intro i hi x hx
  unfold looked at hx
  simp only[List.lookup] at hx
  by_cases e:i=j
  · subst e
    simp only[beq_self_eq_true,Option.getD_some] at hx
    change (maskOf (predsOf ops i) ||| orAll tab (predsOf ops i)).testBit x=true at hx
    rw[Nat.testBit_or,Bool.or_eq_true] at hx
    rcases hx with hx | hx
    · exact hD i hi x ((bit_mask _ _).1 hx)
    · obtain⟨p,hp,hx⟩:=bit_all tab _ _ hx
      exact h p (hD i hi p hp) x hx
  · have e':(i==j)=false:=by simpa using e
    rw[e'] at hx
    exact h i hi x hx)
theorem bef_spec {ops:Array Oper}:∀(pre:List Nat) (i:Nat) (post d:List Nat),befGo ops (pre++i::post) d=true→(∀p∈predsOf ops i,p∈pre∨p∈d)∧i∉pre∧i∉d
 | [],i,post,d,h=>by
  simp only[List.nil_append,befGo,Bool.and_eq_true,List.all_eq_true,Bool.not_eq_true'] at h
  refine⟨fun p hp=>.inr (by simpa using h.1.1 p hp),by simp,by simpa using h.1.2⟩
 | j::pre,i,post,d,h=>by
  simp only[List.cons_append,befGo,Bool.and_eq_true] at h
  obtain⟨h1,h2,h3⟩:=bef_spec pre i post (j::d) h.2
  refine⟨fun p hp => ?_,?_,?_⟩
  · rcases h1 p hp with e | e
    · exact .inl (by simp[e])
    · rcases List.mem_cons.1 e with rfl | e
      · exact .inl (by simp)
      · exact .inr e
  · intro e
    rcases List.mem_cons.1 e with rfl | e
    · exact h3 (by simp)
    · exact h2 e
  · exact fun e=>h3 (by simp[e])
section
variable {P:Program} {T:Tab} {env:Env} {M S0:Nat→Prop} {w0:World} {π:Pin} {S:Nat→Prop} {β:Nat→Cr} {H H':Nat→Ob} {w:World} {a:Act} {sl sl':List AV} {ρ:Option Nat}
theorem evA_const (s s':List AV) (v:Value):evA s (.const v)=evA s' (.const v):=by
 unfold evA
 split<;>simp_all
theorem Inv.congr (h:Inv M S0 w0 π sl H S β a w) (h1:sl'.length=sl.length) (h2:∀t,sl'.getD t .undef=sl.getD t .undef) (h3:∀k,H' k=H k):Inv M S0 w0 π sl' H' S β a w:=by
 have e:H'=H:=funext h3
 subst e
 exact⟨h.rel,by rw[h1];exact h.len,fun t=>by rw[h2 t];exact h.sl t,h.nod,h.pin⟩
theorem step_any (he:EnvOk P env) (hT:TabOk P T) {ops:Array Oper} {Q:Exit→Act→World→Prop} {K:Act→World→Prop} {pre post:List RR} {r:RR} {D:Nat→Bool} {ok:Bool}
 (hsoft:ok=true→∀k∈r.c.soft,∀q∈pre++post,∀p∈q.upd,p.1=k→p.2.shape=(H k).shape)
 (hc:StepA T env ops (slotsF sl pre) (HF H pre) r) (hD:D r.c.i=false)
 (hpre:∀q∈pre,D q.c.i=false→Apart ok ops q r) (hpost:∀q∈post,D q.c.i=true→Apart ok ops r q) (hkeys:∀q∈pre++post,q.c.keys=q.upd.map (·.1)) (hni:∀q∈pre++post,q.c.i≠r.c.i)
 (hi:Inv M S0 w0 π (slotsF sl ((pre++r::post).filter fun q=>D q.c.i)) (HF H ((pre++r::post).filter fun q=>D q.c.i)) S β a w)
 (hk:∀S' β' a' w',Inv M S0 w0 π (slotsF sl ((pre++r::post).filter fun q=>D q.c.i||q.c.i==r.c.i)) (HF H ((pre++r::post).filter fun q=>D q.c.i||q.c.i==r.c.i)) S' β' a' w'→K a' w') :
 wpOpIn (Wd ρ) 0 P ops Q r.c.i K a w:=by
 obtain⟨ho,hrk,hcase⟩:=hc
 have f1:(pre++r::post).filter (fun q=>D q.c.i)=pre.filter (fun q=>D q.c.i)++post.filter (fun q=>D q.c.i):=by
  rw[List.filter_append,List.filter_cons_of_neg (by rw[hD];simp)]
 have g1:∀l:List RR,(∀q∈l,q.c.i≠r.c.i)→l.filter (fun q=>D q.c.i||q.c.i==r.c.i)=l.filter (fun q=>D q.c.i):=by
  intro l hl
  apply List.filter_congr
  intro q hq
  have:(q.c.i==r.c.i)=false:=by simpa using hl q hq
  rw[this,Bool.or_false]
 have f2:(pre++r::post).filter (fun q=>D q.c.i||q.c.i==r.c.i)=pre.filter (fun q=>D q.c.i)++r::post.filter (fun q=>D q.c.i):=by
  rw[List.filter_append,List.filter_cons_of_pos (by simp),g1 pre (fun q hq=>hni q (by simp[hq])),g1 post (fun q hq=>hni q (by simp[hq]))]
 rw[f1] at hi
 rw[f2] at hk
 have hpp:∀q∈post.filter (fun q=>D q.c.i),q∈post∧D q.c.i=true:=fun q hq=>List.mem_filter.1 hq
 have es:∀t,(∀q∈pre,D q.c.i=false→q.o.dst≠some t)→(∀q∈post,D q.c.i=true→q.o.dst≠some t)→(slotsF sl (pre.filter (fun q=>D q.c.i)++post.filter (fun q=>D q.c.i))).getD t .undef=(slotsF sl pre).getD t .undef:=by
  intro t h1 h2
  unfold slotsF
  rw[List.foldl_append]
  refine (slots_skip _ _ fun q hq=>h2 q (hpp q hq).1 (hpp q hq).2).trans ?_
  exact slots_filter pre sl sl rfl rfl h1
 have eh:∀k,(∀q∈pre,D q.c.i=false→k∉q.c.keys)→(∀q∈post,D q.c.i=true→k∉q.c.keys)→HF H (pre.filter (fun q=>D q.c.i)++post.filter (fun q=>D q.c.i)) k=HF H pre k:=by
  intro k h1 h2
  unfold HF
  rw[List.foldl_append]
  refine (H_skip _ _ fun q hq => ?_).trans ?_
  · rw[←hkeys q (by simp[(hpp q hq).1])]
    exact h2 q (hpp q hq).1 (hpp q hq).2
  · exact H_filter pre H H rfl (fun q hq hd=>by rw[←hkeys q (by simp[hq])];exact h1 q hq hd)
 have elook:∀t,t∈r.o.looksAt ops→(slotsF sl (pre.filter (fun q=>D q.c.i)++post.filter (fun q=>D q.c.i))).getD t .undef=(slotsF sl pre).getD t .undef:=fun t ht=>
  es t (fun q hq hd e=>(hpre q hq hd).a1 t e ht) (fun q hq hd e=>(hpost q hq hd).a3 t e ht)
 have eev:∀x∈r.o.op.operands,evA (slotsF sl (pre.filter (fun q=>D q.c.i)++post.filter (fun q=>D q.c.i))) x=evA (slotsF sl pre) x:=by
  intro x hx
  cases x with
  | tmp t=>exact elook t (List.mem_append_left _ (List.mem_filterMap.2 ⟨.tmp t,by simpa using hx,rfl⟩))
  | const v=>exact evA_const _ _ v
  | global g=>rfl
  | func f=>rfl
 have ew:wantedA ops (slotsF sl (pre.filter (fun q=>D q.c.i)++post.filter (fun q=>D q.c.i))) r.o=wantedA ops (slotsF sl pre) r.o:=by
  unfold wantedA
  cases hg:r.o.guard with
  | none=>rfl
  | some gw=>
   obtain⟨g,want⟩:=gw
   cases ht:(ops[g]?).bind (·.dst) with
   | none=>simp only[ht]
   | some t=>
    simp only[ht]
    rw[elook t (by simp[Oper.looksAt,hg,ht])]
 have hnext:∀S' β' a' w',Inv M S0 w0 π (putSlot (slotsF sl (pre.filter (fun q=>D q.c.i)++post.filter (fun q=>D q.c.i))) r.o.dst r.v) (updH (HF H (pre.filter (fun q=>D q.c.i)++post.filter (fun q=>D q.c.i))) r.upd) S' β' a' w'→K a' w':=by
  intro S' β' a' w' h
  refine hk S' β' a' w' (h.congr ?_ (fun t => ?_) (fun k => ?_))
  · rw[putSlot_length,slotsF_length,slotsF_length]
  · rw[putSlot_get]
    unfold slotsF
    rw[List.foldl_append,List.foldl_append,List.foldl_cons]
    have:=slots_put (d:=r.o.dst) (v:=r.v) (t:=t) (post.filter (fun q=>D q.c.i)) (slotsF sl (pre.filter (fun q=>D q.c.i))) (putSlot (slotsF sl (pre.filter (fun q=>D q.c.i))) r.o.dst r.v) (putSlot_length _ _ _) (putSlot_get _ _ _ _) (fun q hq e hd=>(hpost q (hpp q hq).1 (hpp q hq).2).a2 e hd)
    refine this.trans ?_
    have hl:(List.foldl (fun sl r=>putSlot sl r.o.dst r.v) (List.foldl (fun sl r=>putSlot sl r.o.dst r.v) sl (pre.filter (fun q=>D q.c.i))) (post.filter (fun q=>D q.c.i))).length=(slotsF sl (pre.filter (fun q=>D q.c.i))).length:=slotsF_length _ _
    rw[hl]
    rfl
  · unfold HF
    rw[List.foldl_append,List.foldl_append,List.foldl_cons]
    exact H_put (post.filter (fun q=>D q.c.i)) (HF H (pre.filter (fun q=>D q.c.i))) _ rfl (fun q hq hk1 hk2=>by
     have:=(hpost q (hpp q hq).1 (hpp q hq).2).b2 k (by rw[hrk];exact hk1)
     rw[hkeys q (by simp[(hpp q hq).1])] at this
     exact this hk2)
 unfold wpOpIn
 simp only[ho]
 rcases hcase with ⟨hw,res,h1,h2,h3,h4,h5,h5s,_,h6⟩ | ⟨hw,h1,h2⟩
 · rw[wanted_of hi (ew.trans hw)]
   simp only[if_true]
   have hsem:semOp T env (evA (slotsF sl (pre.filter (fun q=>D q.c.i)++post.filter (fun q=>D q.c.i)))) (HF H (pre.filter (fun q=>D q.c.i)++post.filter (fun q=>D q.c.i))) r.nid r.o=some res:=by
    obtain⟨q1,q2⟩:=semOp_congr (T:=T) (env:=env) (H:=HF H (pre.filter (fun q=>D q.c.i)++post.filter (fun q=>D q.c.i))) (nid:=r.nid) r.o eev
    rw[q1,semOp_soft r.o (H:=HF H pre) (fun k hk => ?_),h1]
    rw[←h5] at hk
    by_cases hks:ok=true∧k∈r.c.soft
    · right
      refine⟨by rw[←h5s];exact hks.2,?_⟩
      have hq:=hsoft hks.1 k hks.2
      rw[shape_HF (c:=(H k).shape) _ H (fun q hm=>hq q (by
       rcases List.mem_append.1 hm with hm | hm
       · exact List.mem_append_left _ (List.mem_filter.1 hm).1
       · exact List.mem_append_right _ (List.mem_filter.1 hm).1)) rfl,shape_HF (c:=(H k).shape) _ H (fun q hm=>hq q (List.mem_append_left _ hm)) rfl]
    · left
      have hef:k∈effR ok r.c:=by
       unfold effR
       cases ok with
       | false=>exact hk
       | true=>
        simp only[cond_true]
        refine List.mem_filter.2 ⟨hk,?_⟩
        have:k∉r.c.soft:=fun hh=>hks ⟨rfl,hh⟩
        simpa using this
      exact eh k (fun q hq hd e=>(hpre q hq hd).b1 k e hef) (fun q hq hd e=>(hpost q hq hd).b3 k e hef)
   refine op_sound he hT hi hsem h2 ?_ ?_
   · intro p hp hle
     have hkey:p.1∈r.c.keys:=by rw[hrk,h4];exact List.mem_map.2 ⟨p,hp,rfl⟩
     rw[eh p.1 (fun q hq hd e=>(hpre q hq hd).b2 _ e hkey) (fun q hq hd e=>(hpost q hq hd).b2 _ hkey e)]
     exact h6 p hp hle
   · rw[←h3,←h4]
     exact hnext
 · rw[wanted_of hi (ew.trans hw)]
   simp only[Bool.false_eq_true,if_false]
   refine⟨fun _ _=>trivial,hnext S β _ w ?_⟩
   rw[h1,h2,updH_nil]
   exact skip_sound hi r.o.dst
theorem all_orders (he:EnvOk P env) (hT:TabOk P T) {ops:Array Oper} {Q:Exit→Act→World→Prop} {rs:List RR} (hch:Chain T env ops sl H rs) (hord:okOrd ops (rs.map (·.c.i))=true)
 {ok:Bool} (hokk:ok=true→softOk ((rs.map (·.c)).reverse)=true) (hind:indepAll ok ops (ancGo ops (rs.map (·.c.i)) []) ((rs.map (·.c)).reverse)=true)
 (hQ:∀S' β' a' w',Inv M S0 w0 π (slotsF sl rs) (HF H rs) S' β' a' w'→Q .normal a' w') :
 ∀(fuel:Nat) (todo:List Nat) (listed:Array Bool) (S:Nat→Prop) (β:Nat→Cr) (a:Act) (w:World),listed.size=ops.size→todo.length≤fuel→(∀i,i<ops.size→listed.getD i false=false→i∈todo)→Closed ops (fun i=>listed.getD i false) →
  Inv M S0 w0 π (slotsF sl (rs.filter fun q=>listed.getD q.c.i false)) (HF H (rs.filter fun q=>listed.getD q.c.i false)) S β a w→wpAnyIn (Wd ρ) 0 P .any ops Q fuel listed a w:=by
 simp only[okOrd,Bool.and_eq_true,List.all_eq_true] at hord
 obtain⟨hall,hbef⟩:=hord
 have hops:∀q∈rs,ops[q.c.i]? = some q.o∧q.c.keys=q.upd.map (·.1):=by
  intro q hq
  obtain⟨l,m,rfl⟩:=List.append_of_mem hq
  exact⟨(hch.split l q m).1,(hch.split l q m).2.1⟩
 have hpair:=indep_pairs _ hind
 rw[List.pairwise_reverse,List.pairwise_map] at hpair
 have done:∀(listed:Array Bool) (S:Nat→Prop) (β:Nat→Cr) (a:Act) (w:World),(∀i,i<ops.size→listed.getD i false=true)→Inv M S0 w0 π (slotsF sl (rs.filter fun q=>listed.getD q.c.i false)) (HF H (rs.filter fun q=>listed.getD q.c.i false)) S β a w→Q .normal a w:=by
  intro listed S β a w h hi
  have e:rs.filter (fun q=>listed.getD q.c.i false)=rs:=by
   rw[List.filter_eq_self]
   intro q hq
   exact h q.c.i (Array.getElem?_eq_some_iff.1 (hops q hq).1).1
  rw[e] at hi
  exact hQ S β a w hi
 have findR:∀i,i<ops.size→∃pre r post,rs=pre++r::post∧r.c.i=i:=by
  intro i hi
  have h1:=hall i (List.mem_range.2 hi)
  have h2:i∈rs.map (·.c.i):=by simpa using h1
  obtain⟨r,hr,e⟩:=List.mem_map.1 h2
  obtain⟨pre,post,e2⟩:=List.append_of_mem hr
  exact⟨pre,r,post,e2,e⟩
 intro fuel
 induction fuel with
 | zero=>
  intro todo listed S β a w hsz htodo hun hcl hi
  have hnil:todo=[]:=List.eq_nil_of_length_eq_zero (by omega)
  have hfull:∀i,i<ops.size→listed.getD i false=true:=by
   intro i hlt
   cases h:listed.getD i false with
   | true=>rfl
   | false=>have:=hun i hlt h;rw[hnil] at this;cases this
  refine⟨?_,done listed S β a w hfull hi⟩
  rw[List.eq_nil_iff_forall_not_mem]
  intro j hj
  obtain⟨h0,o,ho,_⟩:=mem_ready.1 hj
  have hlt:j<ops.size:=(Array.getElem?_eq_some_iff.1 ho).1
  have:=hfull j hlt
  simp only[Array.getD_eq_getD_getElem?] at h0 this
  rw[Array.getElem?_eq_getElem (by omega)] at h0 this
  simp at h0 this
  rw[h0] at this
  cases this
 | succ fuel ih=>
  intro todo listed S β a w hsz htodo hun hcl hi
  refine⟨fun hr => ?_,fun i hir => ?_⟩
  ·
   refine done listed S β a w (fun i hlt => ?_) hi
   have key:∀(pre:List RR) (r:RR) (post:List RR),rs=pre++r::post→listed.getD r.c.i false=true:=by
    intro pre
    induction hn:pre.length using Nat.strongRecOn generalizing pre with
    | _ n ihn=>
     intro r post e
     cases hl:listed.getD r.c.i false with
     | true=>rfl
     | false=>
      exfalso
      have hro:=(hops r (by rw[e];simp)).1
      have hrlt:r.c.i<ops.size:=(Array.getElem?_eq_some_iff.1 hro).1
      have hmem:r.c.i∈Region.ready .any ops listed:=by
       rw[mem_ready]
       refine⟨?_,r.o,hro,fun ed hed hb => ?_⟩
       · simp only[Array.getD_eq_getD_getElem?] at hl ⊢
         rw[Array.getElem?_eq_getElem (by omega)] at hl ⊢
         exact hl
       · have hp:ed.on∈predsOf ops r.c.i:=by
          unfold predsOf
          rw[hro]
          exact List.mem_map.2 ⟨ed,List.mem_filter.2 ⟨Array.mem_toList_iff.2 hed,hb⟩,rfl⟩
         have hb2:=(bef_spec (pre.map (·.c.i)) r.c.i (post.map (·.c.i)) [] (by rw[e] at hbef;simpa using hbef)).1 _ hp
         rcases hb2 with hb2 | hb2
         · obtain⟨q,hq,e2⟩:=List.mem_map.1 hb2
           obtain⟨l,m,e3⟩:=List.append_of_mem hq
           rw[←e2]
           refine ihn l.length ?_ l rfl q (m++r::post) (by rw[e,e3];simp)
           rw[←hn,e3]
           simp
         · cases hb2
      rw[hr] at hmem
      cases hmem
   obtain⟨pre,r,post,e1,e2⟩:=findR i hlt
   rw[←e2]
   exact key pre r post e1
  · obtain⟨h0,o,ho,hafter⟩:=mem_ready.1 hir
    have hlt:i<ops.size:=(Array.getElem?_eq_some_iff.1 ho).1
    obtain⟨pre,r,post,e1,rfl⟩:=findR i hlt
    have hD:listed.getD r.c.i false=false:=by
     simp only[Array.getD_eq_getD_getElem?] at h0 ⊢
     rw[Array.getElem?_eq_getElem (by omega)] at h0 ⊢
     exact h0
    have hpr:∀p∈predsOf ops r.c.i,listed.getD p false=true:=by
     intro p hp
     unfold predsOf at hp
     rw[ho] at hp
     obtain⟨ed,hed,rfl⟩:=List.mem_map.1 hp
     obtain⟨h1,h2⟩:=List.mem_filter.1 hed
     exact hafter ed (Array.mem_toList_iff.1 h1) h2
    have hset:∀j,(listed.setIfInBounds r.c.i true).getD j false=(listed.getD j false||j==r.c.i):=by
     intro j
     by_cases e:j=r.c.i
     · subst e
       have:r.c.i<listed.size:=by omega
       simp[this]
     · rw[getD_set_ne false (fun h=>e h.symm)]
       have:(j==r.c.i)=false:=by simpa using e
       rw[this,Bool.or_false]
    have hcl2:Closed ops (fun j=>listed.getD j false||j==r.c.i):=by
     intro j hj p hp
     simp only[Bool.or_eq_true,beq_iff_eq] at hj ⊢
     rcases hj with hj | rfl
     · exact .inl (hcl j hj p hp)
     · exact .inl (hpr p hp)
    have hnod:=bef_spec (pre.map (·.c.i)) r.c.i (post.map (·.c.i)) [] (by rw[e1] at hbef;simpa using hbef)
    have hni:∀q∈pre++post,q.c.i≠r.c.i:=by
     intro q hq e
     rcases List.mem_append.1 hq with hq | hq
     · exact hnod.2.1 (List.mem_map.2 ⟨q,hq,e⟩)
     · obtain⟨l,m,e3⟩:=List.append_of_mem hq
       have:=bef_spec (pre.map (·.c.i)++r.c.i::l.map (·.c.i)) q.c.i (m.map (·.c.i)) [] (by rw[e1,e3] at hbef;simpa using hbef)
       exact this.2.1 (by rw[e];simp)
    have hst:=(by rw[e1] at hch;exact hch:Chain T env ops sl H (pre++r::post)).split pre r post
    rw[e1] at hpair
    obtain⟨_,hp2,hp3⟩:=List.pairwise_append.1 hpair
    obtain⟨hp4,_⟩:=List.pairwise_cons.1 hp2
    have hsoft:ok=true→∀k∈r.c.soft,∀q∈pre++post,∀p∈q.upd,p.1=k→p.2.shape=(H k).shape:=by
     intro hokt k hk q hq p hp hpk
     have hdis:=disj_spec (hokk hokt)
     have hkh:∀q∈rs,k∉q.c.hard:=by
      intro q hq hh
      refine hdis k (List.mem_flatMap.2 ⟨r.c,?_,hk⟩) (List.mem_flatMap.2 ⟨q.c,?_,hh⟩)
      · rw[List.mem_reverse];exact List.mem_map.2 ⟨r,by rw[e1];simp,rfl⟩
      · rw[List.mem_reverse];exact List.mem_map.2 ⟨q,hq,rfl⟩
     exact chain_soft rs sl H hch hkh q (by rw[e1];rcases List.mem_append.1 hq with h | h<;>simp[h]) p hp hpk
    refine step_any (sl:=sl) (H:=H) (pre:=pre) (post:=post) (D:=fun j=>listed.getD j false) he hT hsoft hst hD ?_ ?_ ?_ hni (by rw[←e1];exact hi) ?_
    · intro q hq hd
      rcases hp3 q hq r (by simp) with hc | hc
      · exfalso
        have:=anc_closed hcl2 ((pre++r::post).map (·.c.i)) [] (fun i _ x hx=>by simp[looked] at hx) r.c.i (by simp) q.c.i hc
        simp only[Bool.or_eq_true,beq_iff_eq] at this
        rcases this with this | this
        · rw[hd] at this;cases this
        · exact hni q (by simp[hq]) this
      · exact apartRc_spec (hops q (by rw[e1];simp[hq])).1 (hops r (by rw[e1];simp)).1 hc
    · intro q hq hd
      rcases hp4 q hq with hc | hc
      · exfalso
        have:=anc_closed hcl ((pre++r::post).map (·.c.i)) [] (fun i _ x hx=>by simp[looked] at hx) q.c.i hd r.c.i hc
        rw[hD] at this
        cases this
      · exact apartRc_spec (hops r (by rw[e1];simp)).1 (hops q (by rw[e1];simp[hq])).1 hc
    · intro q hq
      exact (hops q (by rw[e1];rcases List.mem_append.1 hq with h | h<;>simp[h])).2
    · intro S' β' a' w' hi'
      refine ih (todo.erase r.c.i) (listed.setIfInBounds r.c.i true) S' β' a' w' (by rw[Array.size_setIfInBounds];exact hsz) ?_ ?_ ?_ ?_
      · have:=List.length_erase_of_mem (hun r.c.i hlt hD)
        omega
      · intro j hj hl
        rw[hset j,Bool.or_eq_false_iff] at hl
        exact (List.mem_erase_of_ne (by simpa using hl.2)).2 (hun j hj hl.1)
      · have e:(fun j=>(listed.setIfInBounds r.c.i true).getD j false)=fun j=>listed.getD j false||j==r.c.i:=funext hset
        rw[e]
        exact hcl2
      · have e:(fun q:RR=>(listed.setIfInBounds r.c.i true).getD q.c.i false)=fun q:RR=>listed.getD q.c.i false||q.c.i==r.c.i:=funext fun q=>hset q.c.i
        rw[e,e1]
        exact hi'
theorem region_sound (he:EnvOk P env) (hT:TabOk P T) (hm:P.follows .mixedOrders=true) {B:Bs} (hY:YieldOk P env B π) {id:Nat} {ops:Array Oper} {draw:Bool} {Q:Exit→Act→World→Prop} {k:St→Prop} {kp:Value→St→Prop} {s:St} (hi:InvB B π s S β a w) (h:regionA T env ops draw s k kp)
 (hk:∀s' S' β' a' w',InvB B π s' S' β' a' w'→s'.n=s.n→k s'→Q .normal a' w')
 (hp:∀x s' S' β' a' w',InvB B π s' S' β' a' w'→s'.n=s.n→kp x s'→Q (.panic [{v:=x,recovered:=false}]) a' w'):(Code.region id ops draw).wpIn (Wd ρ) 0 P Q a w:=by
 unfold regionA at h
 cases draw with
 | false=>exact wpIn_region (opsO_sound he hT hY _ s S β a w hi h hk hp)
 | true=>
  simp only[cond_true] at h
  cases hord:okOrd ops (orderOf ops) with
  | false=>rw[hord] at h;exact h.elim
  | true=>
   rw[hord] at h
   simp only[cond_true] at h
   obtain⟨rs,s',h1,h2,h3,h4,h6,h5⟩:=ops_chain _ _ _ h
   rw[List.append_nil] at h5
   cases hind:indepAll (softOk ((rs.map (·.c)).reverse)) ops (ancGo ops (orderOf ops) []) ((rs.map (·.c)).reverse) with
   | false=>rw[hind] at h5;exact h5.elim
   | true=>
    rw[hind] at h5
    simp only[cond_true] at h5
    obtain⟨M,S0,w0,hb,hi⟩:=hi
    refine wpIn_region_any hm ?_
    have hgrow:=hi.rel.grow (w':={w with drawn:=w.drawn+1}) rfl rfl rfl (Nat.le_refl _) (fun _ _=>rfl)
    have hi':Inv M S0 w0 π s.slots s.H S β a {w with drawn:=w.drawn+1}:=⟨hgrow.1,hi.len,fun t=>VL.ext hgrow.2 _ _ (hi.sl t),hi.nod.mono hgrow.2.hS,fun k hk=>(hi.pin k hk).trans (hgrow.2.hO k)⟩
    refine all_orders (sl:=s.slots) (H:=s.H) he hT (rs:=rs) h1 (by rw[h2];exact hord) (ok:=softOk ((rs.map (fun x=>x.c)).reverse)) (fun h=>h) (by rw[h2];exact hind) (fun S' β' a' w' hh=>hk s' S' β' a' w' ⟨M,S0,w0,by rw[h6.2.1,h6.2.2];exact hb,by rw[h3,h4];exact hh⟩ h6.1 h5) ops.size (List.range ops.size) (Array.replicate ops.size false) S β a _ (by simp) (by simp) (fun i hlt _=>List.mem_range.2 hlt) (fun i hd => ?_) ?_
    · simp only[Array.getD_eq_getD_getElem?,Array.getElem?_replicate] at hd
      split at hd<;>cases hd
    · have e:rs.filter (fun q=>(Array.replicate ops.size false).getD q.c.i false)=[]:=by
       rw[List.filter_eq_nil_iff]
       intro q _
       simp only[Array.getD_eq_getD_getElem?,Array.getElem?_replicate]
       split<;>simp
      rw[e]
      exact hi'
end
end Go.Proofs.YtkpjcmiijlpcaaaDoor.Aw
