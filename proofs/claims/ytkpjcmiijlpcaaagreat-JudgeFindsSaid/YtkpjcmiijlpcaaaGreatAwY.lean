/- An abstract program logic over the model, twenty-fourth part: what a law is given, as data. -/
import Derived.Test.YtkpjcmiijlpcaaaGreatAwW
import Derived.OpenShut
import Derived.ChangeArms
import Derived.WalkKit
import Derived.ProofKit
import Derived.ShutString
import Derived.ChangeOld
import Derived.Below
import Derived.Carry
import Derived.SizedLaws
namespace Go.Proofs.YtkpjcmiijlpcaaaGreat.Aw
open Go
def fieldsOk (ok:TypeId→Ty→Bool) (P:Program):List Field→Nat→Ty→Bool
 | [f],off,ty=>f.offset==off&&ok f.type ty&&P.cellsOf f.type==ty.size
 | f::l,off,.pair a b=>f.offset==off&&ok f.type a&&P.cellsOf f.type==a.size&&fieldsOk ok P l (off+a.size) b
 | _,_,_=>false
def elemsOk (ok:TypeId→Ty→Bool) (P:Program) (e:TypeId):Nat→Ty→Bool
 | 1,ty=>ok e ty&&P.cellsOf e==ty.size
 | n+2,.pair a b=>ok e a&&P.cellsOf e==a.size&&elemsOk ok P e (n+1) b
 | _,_=>false
def shapeOk (P:Program):Nat→TypeId→Ty→Bool
 | 0,_,_=>false
 | n+1,t,ty=>match P.underlying t with
  | some (.int k)=>match ty with
   | .int k'=>k==k'
   | _=>false
  | some .bool=>match ty with
   | .bool=>true
   | _=>false
  | some .string=>match ty with
   | .str=>true
   | _=>false
  | some (.slice e)=>match ty with
   | .list _ x=>shapeOk P n e x&&P.cellsOf e==x.size
   | _=>false
  | some (.struct fs)=>fieldsOk (shapeOk P n) P fs.toList 0 ty&&P.cellsOf t==ty.size
  | some (.array m e)=>elemsOk (shapeOk P n) P e m ty&&P.cellsOf t==ty.size
  | _=>false
def OkD:(t:Ty)→t.den→Prop
 | .int k,x=>(Lit.int k x).wf=true
 | .bool,_=>True
 | .str,s=>s.size≤maxLen
 | .list _ t,xs=>xs.length≤maxLen∧∀x∈xs,OkD t x
 | .pair a b,x=>OkD a x.1∧OkD b x.2
 | .unit,_=>True
 | .ol _ _,_=>True
section
variable {H:Type} {enc:TypeId×Value→H} {P:Program} {w:World} {base:Nat} {spare:Nat→Bool} {held:Bool}
abbrev allOf (w:World):Nat→Prop:=fun b=>b<w.heap.size
theorem cells_get {a:Addr} {n:Nat} {cs:List Value} (h:w.cells? base a n=some cs):cs.length=n∧∀j u,cs[j]? = some u→w.cell? (a.add j)=some u:=by
 unfold World.cells? at h
 split at h
 · have hl:cs.length=n:=by simpa using mapM_some_length h
   refine⟨hl,fun j u hj => ?_⟩
   have hlt:j<n:=by rw[←hl];exact (List.getElem?_eq_some_iff.1 hj).1
   have:=mapM_some_get h j j (by simp[hlt])
   rw[this,hj]
 · cases h
theorem fields_dr {m:Nat} {cs:List Value} {ok:TypeId→Ty→Bool} (ih:∀t ty,ok t ty=true→∀cs x,DataW.trod enc P w base spare held m t cs=some x→∃v:ty.den,DR (allOf w) w ty v cs∧OkD ty v) :
 ∀(l:List Field) (off:Nat) (ty:Ty) (xs:List (DataW H×List MemPlace)),fieldsOk ok P l off ty=true→xs.length=l.length →
  (∀(i:Nat) (f:Field),l[i]? = some f→DataW.trod enc P w base spare held m f.type ((cs.drop f.offset).take (P.cellsOf f.type))=xs[i]?)→∃v:ty.den,DR (allOf w) w ty v ((cs.drop off).take ty.size)∧OkD ty v
 | [],_,_,_,h,_,_=>by simp[fieldsOk] at h
 | [f],off,ty,xs,h,hl,hx=>by
  simp only[fieldsOk,Bool.and_eq_true,beq_iff_eq] at h
  obtain⟨⟨h1,h2⟩,h3⟩:=h
  have h0:=hx 0 f rfl
  match xs,hl with
  | [x],_=>
   rw[h1,h3] at h0
   exact ih f.type ty h2 _ x h0
 | f::g::l,off,ty,xs,h,hl,hx=>by
  cases ty with
  | pair a b=>
   simp only[fieldsOk,Bool.and_eq_true,beq_iff_eq] at h
   obtain⟨⟨⟨h1,h2⟩,h3⟩,h4⟩:=h
   match xs,hl with
   | x::xs,hl=>
    have h0:=hx 0 f rfl
    rw[h1,h3] at h0
    obtain⟨v,g1,g2⟩:=ih f.type a h2 _ x h0
    obtain⟨u,k1,k2⟩:=fields_dr ih (g::l) (off+a.size) b xs h4 (by simpa using hl) (fun i f' hi=>by have:=hx (i+1) f' (by simpa using hi);simpa using this)
    refine⟨(v,u),⟨_,_,?_,g1,k1⟩,g2,k2⟩
    show (cs.drop off).take (a.size+b.size)=_
    rw[List.take_add,List.drop_drop]
  | _=>simp[fieldsOk] at h
theorem elems_dr {m:Nat} {e:TypeId} {cs:List Value} {ok:TypeId→Ty→Bool} (ih:∀t ty,ok t ty=true→∀cs x,DataW.trod enc P w base spare held m t cs=some x→∃v:ty.den,DR (allOf w) w ty v cs∧OkD ty v) :
 ∀(n:Nat) (k:Nat) (ty:Ty),elemsOk ok P e n ty=true→(∀i,i<n→∃x,DataW.trod enc P w base spare held m e ((cs.drop ((k+i)*P.cellsOf e)).take (P.cellsOf e))=some x)→∃v:ty.den,DR (allOf w) w ty v ((cs.drop (k*P.cellsOf e)).take ty.size)∧OkD ty v
 | 0,_,_,h,_=>by simp[elemsOk] at h
 | 1,k,ty,h,hx=>by
  simp only[elemsOk,Bool.and_eq_true,beq_iff_eq] at h
  obtain⟨x,h0⟩:=hx 0 (by omega)
  rw[Nat.add_zero] at h0
  rw[←h.2]
  exact ih e ty h.1 _ x h0
 | n+2,k,ty,h,hx=>by
  cases ty with
  | pair a b=>
   simp only[elemsOk,Bool.and_eq_true,beq_iff_eq] at h
   obtain⟨⟨h2,h3⟩,h4⟩:=h
   obtain⟨x,h0⟩:=hx 0 (by omega)
   rw[Nat.add_zero] at h0
   obtain⟨v,g1,g2⟩:=ih e a h2 _ x h0
   obtain⟨u,k1,k2⟩:=elems_dr ih (n+1) (k+1) b h4 (fun i hi=>by have:=hx (i+1) (by omega);rwa [show k+(i+1)=k+1+i by omega] at this)
   refine⟨(v,u),⟨_,_,?_,g1,k1⟩,g2,k2⟩
   show (cs.drop (k*P.cellsOf e)).take (a.size+b.size)=_
   rw[List.take_add,List.drop_drop,h3,show k*a.size+a.size=(k+1)*a.size by rw[Nat.add_mul];omega]
  | _=>simp[elemsOk] at h
theorem trod_dr:∀(n:Nat) (t:TypeId) (ty:Ty),shapeOk P n t ty=true→∀(fuel:Nat) (cs:List Value) (x:DataW H×List MemPlace),DataW.trod enc P w base spare held fuel t cs=some x→∃v:ty.den,DR (allOf w) w ty v cs∧OkD ty v
 | 0,_,_,h,_,_,_,_=>by simp[shapeOk] at h
 | n+1,t,ty,h,fuel,cs,x,hx=>by
  unfold shapeOk at h
  split at h
  · rename_i k hu
    cases ty<;>simp only[beq_iff_eq] at h<;>try cases h
    obtain⟨m,rfl,_,hw⟩:=DataW.trod_int hu hx
    exact⟨m,rfl,hw⟩
  · rename_i hu
    cases ty<;>simp only at h<;>try cases h
    obtain⟨b,rfl,_⟩:=DataW.trod_bool hu hx
    exact⟨b,rfl,trivial⟩
  · rename_i hu
    cases ty<;>simp only at h<;>try cases h
    obtain⟨s,rfl,_,hs⟩:=DataW.trod_string hu hx
    exact⟨s,rfl,hs⟩
  · rename_i e hu
    cases ty with
    | list e' ty=>
     simp only[Bool.and_eq_true,beq_iff_eq] at h
     rcases DataW.trod_slice hu hx with ⟨rfl,_⟩ | ⟨a,len,cap,elems,rest,m,rfl,rfl,_,hb,hl,hm,hlen,hel,_⟩
     · exact⟨[],⟨none,0,0,[],rfl,rfl,Nat.le_refl _,rfl,fun j u hj=>by simp at hj,fun _=>rfl⟩,by simp[OkD]⟩
     · have key:∀k,k≤len→∃(xs:List ty.den) (es:List Value),xs.length=k∧Cat (DR (allOf w) w ty) xs es∧(∀j u,es[j]? = some u→w.cell? (a.add j)=some u)∧∀y∈xs,OkD ty y:=by
        intro k
        induction k with
        | zero=>exact fun _=>⟨[],[],rfl,rfl,fun j u hj=>by simp at hj,fun y hy=>by simp at hy⟩
        | succ k ihk=>
         intro hk
         obtain⟨xs,es,q1,q2,q3,q4⟩:=ihk (by omega)
         have hk':=hel k (by omega)
         rw[List.getElem?_eq_getElem (by omega),Option.bind_eq_some_iff] at hk'
         obtain⟨ds,hd1,hd2⟩:=hk'
         obtain⟨v,g1,g2⟩:=trod_dr n e ty h.1 m ds _ hd2
         obtain⟨c1,c2⟩:=cells_get hd1
         have hes:=Cat.length (DR.length ty) _ _ q2
         refine⟨xs++[v],es++ds,by simp[q1],Cat.append _ _ _ _ q2 ⟨ds,[],by simp,g1,rfl⟩,fun j u hj => ?_,fun y hy => ?_⟩
         · by_cases hj2:j<es.length
           · rw[List.getElem?_append_left hj2] at hj
             exact q3 j u hj
           · rw[List.getElem?_append_right (by omega)] at hj
             have:=c2 _ u hj
             rw[add_add,h.2] at this
             rwa [show k*ty.size+(j-es.length)=j by rw[hes,q1];rw[hes,q1] at hj2;omega] at this
         · rcases List.mem_append.1 hy with hy | hy
           · exact q4 y hy
           · simp at hy;subst hy;exact g2
       obtain⟨xs,es,q1,q2,q3,q4⟩:=key len (Nat.le_refl _)
       refine⟨xs,⟨some a,len,cap,es,rfl,q1.symm,hl,q2,fun j u hj=>⟨a,rfl,?_,q3 j u hj⟩,fun h=>by cases h⟩,by show xs.length≤maxLen;omega,q4⟩
       have:=World.block_lt_of_cell? w _ (q3 j u hj)
       rwa [show (a.add j).block=a.block by unfold Addr.add;split<;>rfl] at this
    | _=>simp at h
  · rename_i fs hu
    simp only[Bool.and_eq_true,beq_iff_eq] at h
    obtain⟨xs,m,rfl,_,hl,hlx,hf⟩:=DataW.trod_struct hu hx
    have:=fields_dr (cs:=cs) (m:=m) (ok:=shapeOk P n) (fun t ty hok cs x hh=>trod_dr n t ty hok m cs x hh) fs.toList 0 ty xs h.1 (by simpa using hlx) (fun i f hi=>hf i f (by simpa using hi))
    rw[List.drop_zero,List.take_of_length_le (by rw[hl,h.2];exact Nat.le_refl _)] at this
    exact this
  · rename_i k e hu
    simp only[Bool.and_eq_true,beq_iff_eq] at h
    obtain⟨xs,m,rfl,_,hl,hlx,hf⟩:=DataW.trod_array hu hx
    have:=elems_dr (cs:=cs) (m:=m) (ok:=shapeOk P n) (fun t ty hok cs x hh=>trod_dr n t ty hok m cs x hh) k 0 ty h.1 (fun i hi=>by
     rw[Nat.zero_add]
     exact⟨xs[i],by rw[hf i hi];exact List.getElem?_eq_getElem (by omega)⟩)
    rw[Nat.zero_mul,List.drop_zero,List.take_of_length_le (by rw[hl,h.2];exact Nat.le_refl _)] at this
    exact this
  · cases h
end
end Go.Proofs.YtkpjcmiijlpcaaaGreat.Aw
namespace Go.Proofs.YtkpjcmiijlpcaaaGreat.Aw
open Go Go.ChangeShapes Go.WideShapes Go.ChangeAt Go.RowKit
abbrev Par:=Bool×Ty
def argA (p:Par) (x:p.2.den):AV:=bif p.1 then .agg (AV.ofList (enc p.2 x)) else (enc p.2 x).headD .undef
@[reducible] def ArgsDen:List Par→Type
 | []=>Unit
 | p::l=>p.2.den×ArgsDen l
def argsA:(l:List Par)→ArgsDen l→List AV
 | [],_=>[]
 | p::l,x=>argA p x.1::argsA l x.2
def OkArgs:(l:List Par)→ArgsDen l→Prop
 | [],_=>True
 | p::l,x=>OkD p.2 x.1∧OkArgs l x.2
def RoomD (P:Program) (u:TypeId):(t:Ty)→t.den→Prop
 | .list e _,xs=>P.underlying u=some (.slice e)→xs.length*P.bytesOf e≤reachBytes
 | _,_=>True
def RoomArgs (P:Program):List TypeId→(l:List Par)→ArgsDen l→Prop
 | u::us,p::l,x=>RoomD P u p.2 x.1∧RoomArgs P us l x.2
 | _,_,_=>True
def parOk (P:Program) (t:TypeId) (p:Par):Bool:=shapeOk P 20 t p.2&&(match P.underlying t with
 | some (.struct _)=>p.1
 | some (.array _ _)=>p.1
 | _ => !p.1)&&P.readableRec t&&decide (t<P.types.size)
def parsOk (P:Program):List TypeId→List Par→Bool
 | [],[]=>true
 | t::ts,p::l=>parOk P t p&&parsOk P ts l
 | _,_=>false
section
variable {Hh:Type} {enc':TypeId×Value→Hh} {P:Program} {W:World} {base:Nat}
theorem room_of {t:TypeId} {ty:Ty} {x:ty.den} {cs:List Value} (hx:DR (allOf W) W ty x cs) {fuel:Nat} {d:DataW Hh×List MemPlace} (ht:DataW.trod enc' P W 0 (fun _=>true) true fuel t cs=some d)
 (hz:∀n∈d.1.weights P t,n≤reachBytes):RoomD P t ty x:=by
 cases ty with
 | list e ty=>
  intro hu
  obtain⟨a,m,c,es,rfl,e2,_⟩:=hx
  rcases DataW.trod_slice hu ht with ⟨e1,_⟩ | ⟨a',len,cap,elems,rest,m',_,e1,rfl,_,_,_,hlen,_⟩
  · simp at e1
    have:x.length=0:=by rw[←e2];exact e1.2.1
    rw[this];omega
  · simp at e1
    have:=hz _ (by simp only[DataW.weights,hu];exact List.mem_cons_self ..)
    simp only[List.length_map] at this
    refine Nat.le_trans (Nat.mul_le_mul_right _ ?_) this
    omega
 | _=>trivial
theorem arg_vl {t:TypeId} {p:Par} (hp:parOk P t p=true) {v:Value} {d:DataW Hh} {ps:List MemPlace} (hw:Value.okWide P W .any base t v) (ht:DataW.Trod enc' P W 0 (fun _=>true) true t v d ps) (hz:∀n∈d.weights P t,n≤reachBytes) :
 ∃x:p.2.den,VL (allOf W) W cr0 ob0 (argA p x) [v]∧OkD p.2 x∧RoomD P t p.2 x:=by
 obtain⟨b,ty⟩:=p
 simp only[parOk,Bool.and_eq_true] at hp
 obtain⟨⟨⟨h1,h2⟩,_⟩,_⟩:=hp
 obtain⟨fuel,hf⟩:=ht
 obtain⟨x,g1,g2⟩:=trod_dr 20 t ty h1 fuel _ _ hf
 refine⟨x,?_,g2,room_of g1 hf hz⟩
 have hvl:=enc_of (β:=cr0) (H:=ob0) ty x _ g1
 have plain:(∀cs,v≠.agg cs)→b=false→VL (allOf W) W cr0 ob0 (argA (b,ty) x) [v]:=by
  intro hne hb
  subst hb
  have hc:v.cells = #[v]:=by
   cases v<;>first
    | rfl
    | exact absurd rfl (hne _)
  rw[hc] at hvl
  obtain⟨a,ha,hv⟩:∃a,enc ty x=[a]∧VL (allOf W) W cr0 ob0 a [v]:=by
   match he:enc ty x,hvl with
   | [a],h=>obtain⟨u,r,e,k1,k2⟩:=h;cases e;exact⟨a,rfl,k1⟩
   | a::a'::l,h=>obtain⟨u,r,e,k1,u',r',e',_⟩:=h;cases e;cases e'
  show VL _ _ _ _ ((enc ty x).headD .undef) [v]
  rw[ha]
  exact hv
 have aggr:(∃cs,v=.agg cs)→b=true→VL (allOf W) W cr0 ob0 (argA (b,ty) x) [v]:=by
  rintro ⟨cs,rfl⟩ rfl
  exact⟨cs.toList,by simp,VLs.of_list _ _ hvl⟩
 unfold Value.okWide at hw
 cases hu:P.underlying t with
 | none=>unfold shapeOk at h1;simp only[hu] at h1;cases h1
 | some dd=>
  unfold shapeOk at h1
  simp only[hu] at h1 h2 hw
  cases dd<;>simp only at h1 h2 hw<;>try (exact (Bool.false_ne_true h1).elim)
  case struct fs=>obtain⟨cs,e,_⟩:=hw;exact aggr ⟨cs,e⟩ h2
  case array n e=>obtain⟨cs,e,_⟩:=hw;exact aggr ⟨cs,e⟩ h2
  all_goals
   refine plain ?_ (by simpa using h2)
   rintro cs rfl
   simp[Cell.okWide,hu,Cell.ok] at hw
theorem args_vl:∀(ts:List TypeId) (l:List Par) (vs:List Value) (ds:List (DataW Hh)) (ps:List MemPlace),parsOk P ts l=true→DataW.TrodAll enc' P W 0 (fun _=>true) true ts vs ds ps →
 (∀(j:Nat) t v,ts[j]? = some t→vs[j]? = some v→Value.okWide P W .any base t v)→(∀n∈DataW.weightsEach P ts ds,n≤reachBytes)→∃x:ArgsDen l,VLs (allOf W) W cr0 ob0 (argsA l x) vs∧OkArgs l x∧RoomArgs P ts l x
 | [],[],vs,ds,ps,_,ht,_,_=>by
  obtain⟨rfl,_,_⟩:=trodAll_nil ht
  exact⟨(),rfl,trivial,trivial⟩
 | [],_::_,_,_,_,h,_,_,_=>by simp[parsOk] at h
 | _::_,[],_,_,_,h,_,_,_=>by simp[parsOk] at h
 | t::ts,p::l,vs,ds,ps,h,ht,hw,hz=>by
  simp only[parsOk,Bool.and_eq_true] at h
  obtain⟨v,vs',d,ds',p0,q0,rfl,rfl,rfl,h0,r0⟩:=trodAll_cons ht
  obtain⟨x,g1,g2,g3⟩:=arg_vl h.1 (hw 0 t v rfl rfl) h0 (fun n hn=>hz n (by simp only[DataW.weightsEach,List.mem_append];exact .inl hn))
  obtain⟨y,k1,k2,k3⟩:=args_vl ts l vs' ds' q0 h.2 r0 (fun j t' v' h1 h2=>hw (j+1) t' v' (by simpa using h1) (by simpa using h2)) (fun n hn=>hz n (by simp only[DataW.weightsEach,List.mem_append];exact .inr hn))
  exact⟨(x,y),⟨v,vs',rfl,g1,k1⟩,⟨g2,k2⟩,g3,k3⟩
theorem trodAll_below (hl:laidOutB P=true) {W':World} (hb:Below W.heap.size W W'):∀(ts:List TypeId) (l:List Par) (vs:List Value) (ds:List (DataW Hh)) (ps:List MemPlace),parsOk P ts l=true→DataW.TrodAll enc' P W 0 (fun _=>true) true ts vs ds ps →
 DataW.TrodAll enc' P W' 0 (fun b=>decide (b<W.heap.size)) true ts vs ds ps
 | [],[],vs,ds,ps,_,ht=>by
  obtain⟨rfl,rfl,rfl⟩:=trodAll_nil ht
  exact trodAll_mk0
 | [],_::_,_,_,_,h,_=>by simp[parsOk] at h
 | _::_,[],_,_,_,h,_=>by simp[parsOk] at h
 | t::ts,p::l,vs,ds,ps,h,ht=>by
  simp only[parsOk,Bool.and_eq_true] at h
  obtain⟨v,vs',d,ds',p0,q0,rfl,rfl,rfl,h0,r0⟩:=trodAll_cons ht
  have h1:=h.1
  simp only[parOk,Bool.and_eq_true,decide_eq_true_eq] at h1
  have lt0:∀x∈p0,x.block<W.heap.size:=by obtain⟨m,hm⟩:=h0;exact DataW.trod_lt m _ _ _ hm
  exact trodAll_cons_mk (Below.trod hl h1.1.2 h1.2 h0 hb lt0) (trodAll_below hl hb ts l vs' ds' q0 h.2 r0)
theorem trodAll_len:∀(ts:List TypeId) (vs:List Value) (ds:List (DataW Hh)) (ps:List MemPlace),DataW.TrodAll enc' P W 0 (fun _=>true) true ts vs ds ps→ds.length=ts.length
 | [],vs,ds,ps,ht=>by obtain⟨_,rfl,_⟩:=trodAll_nil ht;rfl
 | t::ts,vs,ds,ps,ht=>by
  obtain⟨v,vs',d,ds',p0,q0,_,rfl,_,_,r0⟩:=trodAll_cons ht
  simp[trodAll_len ts vs' ds' q0 r0]
end
theorem row_liftR {C:Checked} {os:Os} {f:FuncId} {fn:Func} {s:ChangeSpec} {conds:List PathCond} {Hh:Type} {enc':TypeId×Value→Hh}
 (own:ownKnob C.prog.godebug=none) (started:os.Started) (noInit:C.prog.inits.idxOf? f=none) (hfn:C.prog.funcs[f]? = some fn) (hlaid:laidOutB C.prog=true)
 (witness:∃(w:World) (tape:Tape) (i:Input),w.os=os∧(w.forCall tape i).Shaped C.prog∧i.vars=[]∧Input.okWide C.prog (w.forCall tape i) .any w.heap.size f i ∧
  s.pre6 enc' C.prog fn conds false (w.forCall tape i).memory i.args∧Assume.holds {} C.prog (lone (Frame.enter C.prog f i.args .normal) [] (w.forCall tape i)))
 (l:List Par) (hl:parsOk C.prog fn.params.toList l=true) {tb:TypeId} (hres:fn.resultTypes = #[tb]) (hb:C.prog.underlying tb=some .bool) (hvars:s.vars=[])
 (hs:∀ds:List (DataW Hh),ds.length=fn.params.toList.length→s.fn Hh ds={results:=[.lit (.bool true)],args:=ds})
 (hc:∀x:ArgsDen l,OkArgs l x→RoomArgs C.prog fn.params.toList l x→ACalls C.prog f (argsA l x) (.bool true) []) :
 ReturnsInHanded {} C os f .any (s.pre6 enc' C.prog fn conds false) (s.post enc' C.prog fn false true false false):=by
 refine returnsInHanded_of_change_sized own started noInit hfn witness ?_
 intro W base args ds gs before hval hW _ hz _
 have hW':=hW
 obtain⟨p,q,hA,hV,rfl,hfz,hnd⟩:=hW
 rw[hvars] at hV
 obtain⟨rfl,rfl⟩:=trodVars_none hV
 have hz':∀n∈DataW.weightsEach C.prog fn.params.toList ds,n≤reachBytes:=by
  intro n hn
  have:=List.all_eq_true.1 hz n (by
   rw[List.append_nil]
   have hv0:s.plain.varTypes C.prog=[]:=by simp only[ChangeSpec.plain,DataSpec.varTypes,hvars];rfl
   rw[hv0,List.append_nil]
   exact hn)
  simpa using this
 obtain⟨x,g1,g2,g3⟩:=args_vl (base:=base) fn.params.toList l args.toList ds p hl hA (fun j t v h1 h2=>hval j t v (by simpa using h1) (by simpa using h2)) hz'
 have hcall:=(hc x g2 g3).run (allOf W) W args.toList (fun b hb=>hb) g1
 have e:args.toList.toArray=args:=by simp
 rw[e] at hcall
 refine hcall.mono ?_
 rintro _ W' ⟨u,rfl,S',β',hrel,hv⟩
 have hu:=VL.bool hv
 subst hu
 have bel:Below W.heap.size W W':=⟨hrel.fr.os,hrel.fr.tape,hrel.fr.output,hrel.fr.size,fun k hk=>hrel.fr.block k hk (fun h=>h)⟩
 have hfn':=hs ds (trodAll_len _ _ _ _ hA)
 refine⟨_,rfl,ds,[],p++[],[],p,[],hW',?_,?_,?_,bel.frame _,fun h=>by cases h⟩
 · rw[List.append_nil,hfn',hres]
   exact trodAll_mk1 (shut_bool hb _)
 · rw[List.append_nil,hfn']
   exact trodAll_below hlaid bel _ l _ _ _ hl hA
 · rw[List.append_nil,hfn',hvars]
   rfl
theorem row_lift {C:Checked} {os:Os} {f:FuncId} {fn:Func} {s:ChangeSpec} {conds:List PathCond} {Hh:Type} {enc':TypeId×Value→Hh}
 (own:ownKnob C.prog.godebug=none) (started:os.Started) (noInit:C.prog.inits.idxOf? f=none) (hfn:C.prog.funcs[f]? = some fn) (hlaid:laidOutB C.prog=true)
 (witness:∃(w:World) (tape:Tape) (i:Input),w.os=os∧(w.forCall tape i).Shaped C.prog∧i.vars=[]∧Input.okWide C.prog (w.forCall tape i) .any w.heap.size f i ∧
  s.pre6 enc' C.prog fn conds false (w.forCall tape i).memory i.args∧Assume.holds {} C.prog (lone (Frame.enter C.prog f i.args .normal) [] (w.forCall tape i)))
 (l:List Par) (hl:parsOk C.prog fn.params.toList l=true) {tb:TypeId} (hres:fn.resultTypes = #[tb]) (hb:C.prog.underlying tb=some .bool) (hvars:s.vars=[])
 (hs:∀ds:List (DataW Hh),ds.length=fn.params.toList.length→s.fn Hh ds={results:=[.lit (.bool true)],args:=ds})
 (hc:∀x:ArgsDen l,OkArgs l x→ACalls C.prog f (argsA l x) (.bool true) []) :
 ReturnsInHanded {} C os f .any (s.pre6 enc' C.prog fn conds false) (s.post enc' C.prog fn false true false false):=
 row_liftR own started noInit hfn hlaid witness l hl hres hb hvars hs (fun x h _=>hc x h)
end Go.Proofs.YtkpjcmiijlpcaaaGreat.Aw
