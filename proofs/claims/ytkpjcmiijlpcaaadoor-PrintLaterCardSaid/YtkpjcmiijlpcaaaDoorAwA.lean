/- An abstract program logic over the model, first part: data codes, abstract values and obje. -/
import Derived.Laws.AppendOwn
import Derived.Laws.OwnMore
import Derived.Orders
import Derived.OrdersIn
import Derived.RangeFuncLeaves
import Derived.RangeFuncNested
import Derived.Recover
import Derived.RowKit
import Derived.KernelRfl
namespace Go.Proofs.YtkpjcmiijlpcaaaDoor.Aw
open Go
inductive Ty where
 | int (k:IntKind)
 | bool
 | str
 | list (e:TypeId) (t:Ty)
 | pair (a b:Ty)
 | unit
 | ol (e:TypeId) (t:Ty)
 deriving DecidableEq
@[reducible] def Ty.den:Ty→Type
 | .int _=>Int
 | .bool=>Bool
 | .str=>ByteArray
 | .list _ t=>List t.den
 | .pair a b=>a.den×b.den
 | .unit=>Unit
 | .ol _ t=>List t.den
def Ty.zero:(t:Ty)→t.den
 | .int _=>(0:Int)
 | .bool=>false
 | .str=>(⟨#[]⟩:ByteArray)
 | .list _ _=>[]
 | .pair a b=>(a.zero,b.zero)
 | .unit=>()
 | .ol _ _=>[]
def Ty.size:Ty→Nat
 | .pair a b=>a.size+b.size
 | .unit=>0
 | _=>1
inductive AV where
 | undef
 | int (k:IntKind) (n:Int)
 | bool (b:Bool)
 | str (s:ByteArray)
 | nilp
 | nilf
 | nili
 | nil0
 | nils (e:TypeId) (t:Ty)
 | ptr (k off:Nat)
 | row (k:Nat)
 | rptr (k:Nat) (i:Int) (off:Nat)
 | list (e:TypeId) (t:Ty) (xs:List t.den)
 | tl (e:TypeId) (t:Ty) (xs:List t.den)
 | lptr (e:TypeId) (t:Ty) (xs:List t.den) (i:Int) (off:Nat)
 | emp (e:TypeId) (t:Ty)
 | view (k lo n:Nat) (e:TypeId) (t:Ty)
 | prow (k:Nat)
 | pptr (k i:Nat)
 | mp (k:Nat)
 | itr (k:Nat)
 | nptr (k:Nat)
 | agg (c:AV)
 | tuple (c:AV)
 | fn (f:Fn) (first captured:AV)
 | iface (t:TypeId) (v:AV)
 | nl
 | cons (a b:AV)
instance:Inhabited AV:=⟨.undef⟩
def AV.toList:AV→List AV
 | .cons a b=>a::b.toList
 | _=>[]
def AV.ofList:List AV→AV
 | []=>.nl
 | a::l=>.cons a (AV.ofList l)
def AV.chain:AV→Bool
 | .nl=>true
 | .cons _ b=>b.chain
 | _=>false
def AV.one:AV→Bool
 | .undef=>false
 | .agg _=>false
 | .tuple _=>false
 | .nl=>false
 | .cons _ _=>false
 | _=>true
def AV.cells? : AV→Option (List AV)
 | .agg c=>if c.chain&&c.toList.all AV.one then some c.toList else none
 | v=>if v.one then some [v] else none
inductive Ob where
 | none
 | dead
 | cells (e:TypeId) (cs:List AV)
 | row (e:TypeId) (t:Ty) (xs:List t.den)
 | prow (e:TypeId) (cs:List AV)
 | map (ag:Bool) (t:Ty) (es:List (Int×t.den))
 | orow (e:TypeId) (t:Ty) (xs:List t.den)
 | hrow (e:TypeId) (t:Ty) (xs:List t.den) (i:Int) (off:Nat)
 | mit (m n:Nat) (seen:List Nat) (cur:Nat)
instance:Inhabited Ob:=⟨.none⟩
def Ob.live:Ob→Bool
 | .cells _ _=>true
 | .row _ _ _=>true
 | .prow _ _=>true
 | .map _ _ _=>true
 | .mit _ _ _ _=>true
 | .orow _ _ _=>true
 | .hrow _ _ _ _ _=>true
 | _=>false
structure Cr where
 g:Option Nat
 cap:Nat
 more:List Nat:=[]
def Cr.has (c:Cr) (b:Nat):Prop:=c.g=some b∨b∈c.more
def enc:(t:Ty)→t.den→List AV
 | .int k,x=>[.int k x]
 | .bool,b=>[.bool b]
 | .str,s=>[.str s]
 | .list e t,xs=>[.list e t xs]
 | .pair a b,x=>enc a x.1++enc b x.2
 | .unit,_=>[]
 | .ol _ _,_=>[.undef]
def dec:(t:Ty)→List AV→Option (t.den×List AV)
 | .int k,.int k' n::r=>if k=k' then some (n,r) else none
 | .bool,.bool b::r=>some (b,r)
 | .str,.str s::r=>some (s,r)
 | .list e t,.list e' t' xs::r=>if h:e'=e∧t'=t then some (h.2▸xs,r) else none
 | .list e t,.nils e' t'::r=>if e'=e∧t'=t then some ([],r) else none
 | .pair a b,l=>match dec a l with
  | some (x,l')=>match dec b l' with
   | some (y,l'')=>some ((x,y),l'')
   | none=>none
  | none=>none
 | .unit,l=>some ((),l)
 | .ol e t,.nils e' t'::r=>if e'=e∧t'=t then some ([],r) else none
 | _,_=>none
def dec1 (t:Ty) (l:List AV):Option t.den:=match dec t l with
 | some (x,[])=>some x
 | _=>none
section
variable (S:Nat→Prop) (w:World)
def Rd (a:Option Addr) (cs:List Value):Prop:=∀j u,cs[j]? = some u→∃ad,a=some ad∧S ad.block∧w.cell? (ad.add j)=some u
def Cat {α:Type} (R:α→List Value→Prop):List α→List Value→Prop
 | [],cs=>cs=[]
 | x::xs,cs=>∃c1 c2,cs=c1++c2∧R x c1∧Cat R xs c2
def DR:(t:Ty)→t.den→List Value→Prop
 | .int k,x,cs=>cs=[.int k x]
 | .bool,b,cs=>cs=[.bool b]
 | .str,s,cs=>cs=[.string s]
 | .list _ t,xs,cs=>∃a n c es,cs=[.slice a n c]∧n=xs.length∧n≤c∧Cat (DR t) xs es∧Rd S w a es∧(a=none→c=0)
 | .pair a b,x,cs=>∃c1 c2,cs=c1++c2∧DR a x.1 c1∧DR b x.2 c2
 | .unit,_,cs=>cs=[]
 | .ol _ t,xs,cs=>∃a n c es,cs=[.slice a n c]∧n=xs.length∧n≤c∧Cat (DR t) xs es∧Rd S w a es∧(a=none→c=0)
def DRo:(t:Ty)→t.den→List Value→List Nat→Prop
 | .ol e t,xs,cs,F=>(cs=[.slice none 0 0]∧xs=[]∧F=[])∨∃g cap cur,cs=[.slice (some ⟨g,0,none⟩) xs.length cap]∧F=[g]∧w.heap[g]? = some (.cells cur e (0,0))∧xs.length≤cap∧cap≤maxLen∧cur.size=cap*t.size∧Cat (DR S w t) xs (cur.toList.take (xs.length*t.size))
 | .pair a b,x,cs,F=>∃c1 c2 F1 F2,cs=c1++c2∧F=F1++F2∧DRo a x.1 c1 F1∧DRo b x.2 c2 F2
 | .int k,x,cs,F=>DR S w (.int k) x cs∧F=[]
 | .bool,x,cs,F=>DR S w .bool x cs∧F=[]
 | .str,x,cs,F=>DR S w .str x cs∧F=[]
 | .list e t,x,cs,F=>DR S w (.list e t) x cs∧F=[]
 | .unit,x,cs,F=>DR S w .unit x cs∧F=[]
def CatO (t:Ty):List t.den→List Value→List Nat→Prop
 | [],cs,F=>cs=[]∧F=[]
 | x::xs,cs,F=>∃c1 c2 F1 F2,cs=c1++c2∧F=F1++F2∧DRo S w t x c1 F1∧CatO t xs c2 F2
def rowV (c:Cr) (n:Nat):Value:=match c.g with
 | some g=>.slice (some ⟨g,0,none⟩) n c.cap
 | none=>.slice none 0 0
variable (β:Nat→Cr) (H:Nat→Ob)
def leaf:AV→Value→Prop
 | .undef,_=>True
 | .int k n,v=>v=.int k n
 | .bool b,v=>v=.bool b
 | .str s,v=>v=.string s
 | .nilp,v=>v=.pointer none
 | .nilf,v=>v=.nilFunc
 | .nili,v=>v=.nilIface
 | .nil0,v=>v=.slice none 0 0
 | .nils _ _,v=>v=.slice none 0 0
 | .ptr k off,v=>match H k with
  | .cells _ _=>∃g,(β k).g=some g∧v=.pointer (some ⟨g,off,none⟩)
  | .dead=>∃ad,v=.pointer (some ad)
  | _=>False
 | .row k,v=>match H k with
  | .row _ _ xs=>v=rowV (β k) xs.length
  | .orow _ _ xs=>v=rowV (β k) xs.length
  | .hrow _ _ xs _ _=>v=rowV (β k) xs.length
  | .dead=>v.oneCell'=true
  | _=>False
 | .rptr k i off,v=>match H k with
  | .row _ t xs=>∃g,(β k).g=some g∧0≤i∧i<(xs.length:Int)∧v=.pointer (some ((⟨g,0,none⟩:Addr).add (i.toNat*t.size+off)))
  | .orow _ t xs=>∃g,(β k).g=some g∧0≤i∧i<(xs.length:Int)∧v=.pointer (some ((⟨g,0,none⟩:Addr).add (i.toNat*t.size+off)))
  | .hrow _ t xs _ _=>∃g,(β k).g=some g∧0≤i∧i<(xs.length:Int)∧v=.pointer (some ((⟨g,0,none⟩:Addr).add (i.toNat*t.size+off)))
  | .dead=>∃ad,v=.pointer (some ad)
  | _=>False
 | .list e t xs,v=>DR S w (.list e t) xs [v]
 | .tl e t xs,v=>DR S w (.list e t) xs [v]∧∃a n,v=.slice a n n
 | .lptr _ t xs i off,v=>0≤i∧i<(xs.length:Int)∧∃ad es,Cat (DR S w t) xs es∧Rd S w (some ad) es∧v=.pointer (some (ad.add (i.toNat*t.size+off)))
 | .emp _ _,v=>∃ad c,v=.slice (some ad) 0 c
 | .view k lo n _ t,v=>match H k with
  | .row _ _ xs=>∃ao c,v=.slice ao n c∧n≤c∧lo+n≤xs.length∧(0<n→∃g,(β k).g=some g∧ao=some ⟨g,lo*t.size,none⟩)∧(ao=none→c=0)
  | .cells _ _=>∃ao c,v=.slice ao n c∧n≤c∧(0<n→∃g,(β k).g=some g∧ao=some ⟨g,lo,none⟩)∧(ao=none→c=0)∧c≤n
  | .dead=>v.oneCell'=true
  | _=>False
 | .prow k,v=>match H k with
  | .prow _ cs=>v=rowV (β k) cs.length
  | .dead=>v.oneCell'=true
  | _=>False
 | .pptr k i,v=>match H k with
  | .prow _ cs=>∃g,(β k).g=some g∧i<cs.length∧v=.pointer (some ⟨g,i,none⟩)
  | .dead=>∃ad,v=.pointer (some ad)
  | _=>False
 | .mp k,v=>match H k with
  | .map _ _ _=>∃g,(β k).g=some g∧v=.map (some g)
  | .dead=>v.oneCell'=true
  | _=>False
 | .nptr k,v=>match H k with
  | .cells _ _=>∃g,(β k).g=some g∧(v=.pointer none∨v=.pointer (some ⟨g,0,none⟩))
  | .dead=>v.oneCell'=true
  | _=>False
 | .itr k,v=>match H k with
  | .mit _ _ _ _=>∃g,(β k).g=some g∧v=.pointer (some ⟨g,0,none⟩)
  | .dead=>v.oneCell'=true
  | _=>False
 | _,_=>False
def VL:AV→List Value→Prop
 | .nl,vs=>vs=[]
 | .cons a b,vs=>∃v r,vs=v::r∧VL a [v]∧VL b r
 | .agg c,vs=>∃cs,vs=[.agg cs.toArray]∧VL c cs
 | .tuple c,vs=>∃cs,vs=[.tuple cs.toArray]∧VL c cs
 | .fn f a c,vs=>∃x y,vs=[.func f x.toArray y.toArray]∧VL a x∧VL c y
 | .iface t a,vs=>∃v,vs=[.iface t v]∧VL a [v]
 | a,vs=>∃v,vs=[v]∧leaf S w β H a v
def VLs:List AV→List Value→Prop
 | [],vs=>vs=[]
 | a::l,vs=>∃v r,vs=v::r∧VL S w β H a [v]∧VLs l r
def valV (ag:Bool) (cs:List Value):Value:=if ag then .agg cs.toArray else cs.headD undef
def valA (ag:Bool) (cs:List AV):AV:=if ag then .agg (AV.ofList cs) else cs.headD .undef
def EntR (ag:Bool) (t:Ty) (es:List (Int×t.den)) (l:Array MapEntry):Prop:=
 l.size=es.length∧∀(i:Nat) (p:Int×t.den),es[i]? = some p→∃cs,DR S w t p.2 cs∧l[i]? = some (MapEntry.mk (.int .i64 p.1) (valV ag cs) i)
def ObR (c:Cr):Ob→Prop
 | .cells e cs=>∃g vs,c.g=some g∧w.heap[g]? = some (.cells vs.toArray e (0,0))∧VLs S w β H cs vs
 | .row e t xs=>(c.g=none∧xs=[])∨∃g cur,c.g=some g∧w.heap[g]? = some (.cells cur e (0,0))∧xs.length≤c.cap∧c.cap≤maxLen∧cur.size=c.cap*t.size∧Cat (DR S w t) xs (cur.toList.take (xs.length*t.size))
 | .prow e xs=>(c.g=none∧xs=[])∨∃g cur,c.g=some g∧w.heap[g]? = some (.cells cur e (0,0))∧xs.length≤c.cap∧c.cap≤maxLen∧cur.size=c.cap∧VLs S w β H xs (cur.toList.take xs.length)
 | .orow e t xs=>(c.g=none∧xs=[]∧c.more=[])∨∃g cur,c.g=some g∧w.heap[g]? = some (.cells cur e (0,0))∧xs.length≤c.cap∧c.cap≤maxLen∧cur.size=c.cap*t.size∧CatO S w t xs (cur.toList.take (xs.length*t.size)) c.more∧(g::c.more).Nodup
 | .hrow e t xs i off=>∃g cur,c.g=some g∧w.heap[g]? = some (.cells cur e (0,0))∧xs.length≤c.cap∧c.cap≤maxLen∧cur.size=c.cap*t.size∧0≤i∧i<(xs.length:Int)∧off<t.size∧CatO S w t xs ((cur.toList.take (xs.length*t.size)).set (i.toNat*t.size+off) (.slice none 0 0)) c.more∧(g::c.more).Nodup
 | .map ag t es=>∃g l,c.g=some g∧w.heap[g]? = some (.map l es.length)∧EntR S w ag t es l
 | .mit m n seen _=>∃g gm st,c.g=some g∧w.heap[g]? = some (.mapIter (some gm) n seen.toArray st)∧st=n∧match H m with
  | .map _ _ _=>(β m).g=some gm
  | .dead=>True
  | _=>False
 | _=>True
end
theorem rowV_one (c:Cr) (n:Nat):(rowV c n).oneCell'=true:=by
 unfold rowV
 split<;>rfl
theorem Cat.mono {α:Type} {R R':α→List Value→Prop} (h:∀x cs,R x cs→R' x cs):∀xs cs,Cat R xs cs→Cat R' xs cs
 | [],_,hc=>hc
 | _::xs,_,⟨c1,c2,e,h1,h2⟩=>⟨c1,c2,e,h _ _ h1,Cat.mono h xs c2 h2⟩
theorem Rd.mono {S S':Nat→Prop} {w w':World} (h:∀b,S b→S' b∧w'.heap[b]? = w.heap[b]?) {a:Option Addr} {cs:List Value} (hr:Rd S w a cs):Rd S' w' a cs:=by
 intro j u hj
 obtain⟨ad,e,hs,hc⟩:=hr j u hj
 refine⟨ad,e,(h _ hs).1,?_⟩
 rw[World.cell?_of_block (w:=w) (by rw[show (ad.add j).block=ad.block by unfold Addr.add;split<;>rfl];exact (h _ hs).2)]
 exact hc
theorem DR.mono {S S':Nat→Prop} {w w':World} (h:∀b,S b→S' b∧w'.heap[b]? = w.heap[b]?):∀(t:Ty) (x:t.den) (cs:List Value),DR S w t x cs→DR S' w' t x cs
 | .int _,_,_,hc=>hc
 | .bool,_,_,hc=>hc
 | .str,_,_,hc=>hc
 | .list _ t,_,_,⟨a,n,c,es,e1,e2,e3,e4,e5,e6⟩=>⟨a,n,c,es,e1,e2,e3,Cat.mono (DR.mono h t) _ _ e4,e5.mono h,e6⟩
 | .pair a b,_,_,⟨c1,c2,e,h1,h2⟩=>⟨c1,c2,e,DR.mono h a _ _ h1,DR.mono h b _ _ h2⟩
 | .unit,_,_,hc=>hc
 | .ol _ t,_,_,⟨a,n,c,es,e1,e2,e3,e4,e5,e6⟩=>⟨a,n,c,es,e1,e2,e3,Cat.mono (DR.mono h t) _ _ e4,e5.mono h,e6⟩
theorem DR.length {S:Nat→Prop} {w:World}:∀(t:Ty) (x:t.den) (cs:List Value),DR S w t x cs→cs.length=t.size
 | .int _,_,_,hc=>by cases hc;rfl
 | .bool,_,_,hc=>by cases hc;rfl
 | .str,_,_,hc=>by cases hc;rfl
 | .list _ _,_,_,⟨_,_,_,_,e,_⟩=>by cases e;rfl
 | .pair a b,_,_,⟨c1,c2,e,h1,h2⟩=>by rw[e,List.length_append,DR.length a _ _ h1,DR.length b _ _ h2];rfl
 | .unit,_,_,hc=>by cases hc;rfl
 | .ol _ _,_,_,⟨_,_,_,_,e,_⟩=>by cases e;rfl
theorem DR.oneCell {S:Nat→Prop} {w:World}:∀(t:Ty) (x:t.den) (cs:List Value),DR S w t x cs→∀u∈cs,u.oneCell'=true
 | .int _,_,_,hc=>by cases hc;simp[Value.oneCell']
 | .bool,_,_,hc=>by cases hc;simp[Value.oneCell']
 | .str,_,_,hc=>by cases hc;simp[Value.oneCell']
 | .list _ _,_,_,⟨_,_,_,_,e,_⟩=>by cases e;simp[Value.oneCell']
 | .pair a b,_,_,⟨c1,c2,e,h1,h2⟩=>by
  intro u hu
  rw[e,List.mem_append] at hu
  rcases hu with hu | hu
  · exact DR.oneCell a _ _ h1 u hu
  · exact DR.oneCell b _ _ h2 u hu
 | .unit,_,_,hc=>by cases hc;simp
 | .ol _ _,_,_,⟨_,_,_,_,e,_⟩=>by cases e;simp[Value.oneCell']
theorem Cat.length {α:Type} {R:α→List Value→Prop} {n:Nat} (hR:∀x cs,R x cs→cs.length=n):∀xs cs,Cat R xs cs→cs.length=xs.length*n
 | [],_,hc=>by cases hc;simp
 | _::xs,_,⟨c1,c2,e,h1,h2⟩=>by rw[e,List.length_append,hR _ _ h1,Cat.length hR xs c2 h2,List.length_cons,Nat.add_mul];omega
theorem Cat.append {α:Type} {R:α→List Value→Prop}:∀xs ys cs ds,Cat R xs cs→Cat R ys ds→Cat R (xs++ys) (cs++ds)
 | [],_,_,_,hc,hd=>by cases hc;exact hd
 | _::xs,ys,_,ds,⟨c1,c2,e,h1,h2⟩,hd=>⟨c1,c2++ds,by rw[e,List.append_assoc],h1,Cat.append xs ys c2 ds h2 hd⟩
theorem Cat.mem {α:Type} {R:α→List Value→Prop} {p:Value→Prop} (hR:∀x cs,R x cs→∀u∈cs,p u):∀xs cs,Cat R xs cs→∀u∈cs,p u
 | [],_,hc=>by cases hc;simp
 | _::xs,_,⟨c1,c2,e,h1,h2⟩=>by
  intro u hu
  rw[e,List.mem_append] at hu
  rcases hu with hu | hu
  · exact hR _ _ h1 u hu
  · exact Cat.mem hR xs c2 h2 u hu
theorem Cat.get {α:Type} {R:α→List Value→Prop} {n:Nat} (hR:∀x cs,R x cs→cs.length=n):∀(xs:List α) cs (i:Nat) (x:α),Cat R xs cs→xs[i]? = some x→∃es,R x es∧∀j u,es[j]? = some u→cs[i*n+j]? = some u
 | [],_,i,x,_,hi=>by simp at hi
 | y::xs,_,0,x,⟨c1,c2,e,h1,h2⟩,hi=>by
  simp at hi
  subst hi
  refine⟨c1,h1,fun j u hj => ?_⟩
  rw[e,Nat.zero_mul,Nat.zero_add,List.getElem?_append_left (List.getElem?_eq_some_iff.1 hj).1]
  exact hj
 | y::xs,_,i+1,x,⟨c1,c2,e,h1,h2⟩,hi=>by
  obtain⟨es,hes,hg⟩:=Cat.get hR xs c2 i x h2 (by simpa using hi)
  refine⟨es,hes,fun j u hj => ?_⟩
  have hl:=hR _ _ h1
  rw[e,List.getElem?_append_right (by rw[hl,Nat.add_mul];omega),hl,show (i+1)*n+j-n=i*n+j by rw[Nat.add_mul];omega]
  exact hg j u hj
theorem DRo.mono {S S':Nat→Prop} {w w':World} (h:∀b,S b→S' b∧w'.heap[b]? = w.heap[b]?):∀(t:Ty) (x:t.den) (cs:List Value) (F:List Nat),(∀b∈F,w'.heap[b]? = w.heap[b]?)→DRo S w t x cs F→DRo S' w' t x cs F
 | .int _,_,_,_,_,hc=>⟨DR.mono h _ _ _ hc.1,hc.2⟩
 | .bool,_,_,_,_,hc=>⟨DR.mono h _ _ _ hc.1,hc.2⟩
 | .str,_,_,_,_,hc=>⟨DR.mono h _ _ _ hc.1,hc.2⟩
 | .list _ _,_,_,_,_,hc=>⟨DR.mono h _ _ _ hc.1,hc.2⟩
 | .unit,_,_,_,_,hc=>⟨DR.mono h _ _ _ hc.1,hc.2⟩
 | .pair a b,_,_,_,hF,⟨c1,c2,F1,F2,e,e2,h1,h2⟩=>⟨c1,c2,F1,F2,e,e2,DRo.mono h a _ _ _ (fun b hb=>hF b (by rw[e2];simp[hb])) h1,DRo.mono h b _ _ _ (fun b hb=>hF b (by rw[e2];simp[hb])) h2⟩
 | .ol _ t,_,_,_,hF,hc=>by
  rcases hc with hc | ⟨g,cap,cur,e1,e2,e3,e4,e5,e6,e7⟩
  · exact .inl hc
  · exact .inr ⟨g,cap,cur,e1,e2,(hF g (by rw[e2];simp)).trans e3,e4,e5,e6,Cat.mono (DR.mono h t) _ _ e7⟩
theorem CatO.mono {S S':Nat→Prop} {w w':World} (h:∀b,S b→S' b∧w'.heap[b]? = w.heap[b]?) {t:Ty}:∀(xs:List t.den) (cs:List Value) (F:List Nat),(∀b∈F,w'.heap[b]? = w.heap[b]?)→CatO S w t xs cs F→CatO S' w' t xs cs F
 | [],_,_,_,hc=>hc
 | _::xs,_,_,hF,⟨c1,c2,F1,F2,e,e2,h1,h2⟩=>⟨c1,c2,F1,F2,e,e2,DRo.mono h t _ _ _ (fun b hb=>hF b (by rw[e2];simp[hb])) h1,CatO.mono h xs _ _ (fun b hb=>hF b (by rw[e2];simp[hb])) h2⟩
theorem DRo.length {S:Nat→Prop} {w:World}:∀(t:Ty) (x:t.den) (cs:List Value) (F:List Nat),DRo S w t x cs F→cs.length=t.size
 | .int _,_,_,_,hc=>DR.length _ _ _ hc.1
 | .bool,_,_,_,hc=>DR.length _ _ _ hc.1
 | .str,_,_,_,hc=>DR.length _ _ _ hc.1
 | .list _ _,_,_,_,hc=>DR.length _ _ _ hc.1
 | .unit,_,_,_,hc=>DR.length _ _ _ hc.1
 | .pair a b,_,_,_,⟨c1,c2,F1,F2,e,_,h1,h2⟩=>by rw[e,List.length_append,DRo.length a _ _ _ h1,DRo.length b _ _ _ h2];rfl
 | .ol _ t,_,_,_,hc=>by
  rcases hc with ⟨e,_⟩ | ⟨g,cap,cur,e,_⟩<;>rw[e]<;>rfl
theorem DRo.oneCell {S:Nat→Prop} {w:World}:∀(t:Ty) (x:t.den) (cs:List Value) (F:List Nat),DRo S w t x cs F→∀u∈cs,u.oneCell'=true
 | .int _,_,_,_,hc=>DR.oneCell _ _ _ hc.1
 | .bool,_,_,_,hc=>DR.oneCell _ _ _ hc.1
 | .str,_,_,_,hc=>DR.oneCell _ _ _ hc.1
 | .list _ _,_,_,_,hc=>DR.oneCell _ _ _ hc.1
 | .unit,_,_,_,hc=>DR.oneCell _ _ _ hc.1
 | .pair a b,_,_,_,⟨c1,c2,F1,F2,e,_,h1,h2⟩=>by
  intro u hu
  rw[e,List.mem_append] at hu
  rcases hu with hu | hu
  · exact DRo.oneCell a _ _ _ h1 u hu
  · exact DRo.oneCell b _ _ _ h2 u hu
 | .ol _ t,_,_,_,hc=>by
  rcases hc with ⟨e,_⟩ | ⟨g,cap,cur,e,_⟩<;>rw[e]<;>simp[Value.oneCell']
theorem CatO.length {S:Nat→Prop} {w:World} {t:Ty}:∀(xs:List t.den) (cs:List Value) (F:List Nat),CatO S w t xs cs F→cs.length=xs.length*t.size
 | [],_,_,hc=>by rw[hc.1];simp
 | _::xs,_,_,⟨c1,c2,F1,F2,e,_,h1,h2⟩=>by rw[e,List.length_append,DRo.length t _ _ _ h1,CatO.length xs c2 F2 h2,List.length_cons,Nat.add_mul];omega
theorem CatO.append {S:Nat→Prop} {w:World} {t:Ty}:∀(xs ys:List t.den) (cs ds:List Value) (F G:List Nat),CatO S w t xs cs F→CatO S w t ys ds G→CatO S w t (xs++ys) (cs++ds) (F++G)
 | [],_,_,_,_,_,hc,hd=>by obtain⟨rfl,rfl⟩:=hc;exact hd
 | _::xs,ys,_,ds,_,G,⟨c1,c2,F1,F2,e,e2,h1,h2⟩,hd=>⟨c1,c2++ds,F1,F2++G,by rw[e,List.append_assoc],by rw[e2,List.append_assoc],h1,CatO.append xs ys c2 ds F2 G h2 hd⟩
theorem CatO.oneCell {S:Nat→Prop} {w:World} {t:Ty}:∀(xs:List t.den) (cs:List Value) (F:List Nat),CatO S w t xs cs F→∀u∈cs,u.oneCell'=true
 | [],_,_,hc=>by rw[hc.1];simp
 | _::xs,_,_,⟨c1,c2,F1,F2,e,_,h1,h2⟩=>by
  intro u hu
  rw[e,List.mem_append] at hu
  rcases hu with hu | hu
  · exact DRo.oneCell t _ _ _ h1 u hu
  · exact CatO.oneCell xs c2 F2 h2 u hu
theorem CatO.split {S:Nat→Prop} {w:World} {t:Ty}:∀(xs:List t.den) (cs:List Value) (F:List Nat) (i:Nat),i<xs.length→CatO S w t xs cs F →
 ∃c1 c2 c3 F1 F2 F3,cs=c1++c2++c3∧F=F1++F2++F3∧c1.length=i*t.size∧DRo S w t (xs.getD i t.zero) c2 F2∧∀(y:t.den) (c2':List Value) (F2':List Nat) ,DRo S w t y c2' F2'→CatO S w t (xs.set i y) (c1++c2'++c3) (F1++F2'++F3)
 | [],_,_,_,h,_=>by simp at h
 | x::xs,_,_,0,_,⟨c1,c2,F1,F2,e,e2,h1,h2⟩=>⟨[],c1,c2,[],F1,F2,by rw[e];rfl,by rw[e2];rfl,by simp,h1,fun y c2' F2' hy=>⟨c2',c2,F2',F2,by simp,by simp,hy,h2⟩⟩
 | x::xs,_,_,i+1,h,⟨c1,c2,F1,F2,e,e2,h1,h2⟩=>by
  obtain⟨d1,d2,d3,G1,G2,G3,q1,q2,q3,q4,q5⟩:=CatO.split xs c2 F2 i (by simpa using h) h2
  refine⟨c1++d1,d2,d3,F1++G1,G2,G3,by rw[e,q1];simp,by rw[e2,q2];simp,by rw[List.length_append,q3,DRo.length _ _ _ _ h1,Nat.add_mul];omega,q4,fun y c2' F2' hy => ?_⟩
  exact⟨c1,d1++c2'++d3,F1,G1++F2'++G3,by simp,by simp,h1,q5 y c2' F2' hy⟩
def globT (g:Nat):AV:=match g with
 | 0=>.lptr 66 (.pair .str (.pair .str (.pair .str (.pair .str (.pair .str .str))))) [(⟨#[]⟩,⟨#[98,108,111,99,107]⟩,⟨#[102,108,111,97,116]⟩,⟨#[114,111,111,116]⟩,⟨#[116,101,120,116]⟩,⟨#[97,116,111,109]⟩)] 0 0
 | _=>.undef
theorem globT_cases (g:Nat):globT g=.undef∨∃e t xs i off,globT g=.lptr e t xs i off:=by
 unfold globT
 split
 · exact .inr ⟨_,_,_,_,_,rfl⟩
 · exact .inl rfl
def selfT (t:TypeId):Bool:=Nat.beq t 58
def GL (S:Nat→Prop) (w:World):Prop:=∀g,leaf S w (fun _=>⟨none,0,[]⟩) (fun _=>.none) (globT g) (.pointer (some ⟨g,0,none⟩))
theorem GL.leaf {S:Nat→Prop} {w:World} (h:GL S w) (β:Nat→Cr) (H:Nat→Ob) (g:Nat):leaf S w β H (globT g) (.pointer (some ⟨g,0,none⟩)):=by
 have h:=h g
 rcases globT_cases g with e | ⟨_,_,_,_,_,e⟩<;>rw[e] at h ⊢ <;> exact h
theorem GL.vl {S:Nat→Prop} {w:World} (h:GL S w) (β:Nat→Cr) (H:Nat→Ob) (g:Nat):VL S w β H (globT g) [.pointer (some ⟨g,0,none⟩)]:=by
 have h:=h.leaf β H g
 rcases globT_cases g with e | ⟨_,_,_,_,_,e⟩<;>rw[e] at h ⊢ <;> exact⟨_,rfl,h⟩
theorem GL.mono {S S':Nat→Prop} {w w':World} (h:GL S w) (hm:∀b,S b→S' b∧w'.heap[b]? = w.heap[b]?):GL S' w':=by
 intro g
 have h:=h g
 rcases globT_cases g with e | ⟨_,t,_,_,_,e⟩<;>rw[e] at h ⊢
 · trivial
 · obtain⟨h1,h2,ad,es,h3,h4,h5⟩:=h
   exact⟨h1,h2,ad,es,Cat.mono (DR.mono hm t) _ _ h3,h4.mono hm,h5⟩
end Go.Proofs.YtkpjcmiijlpcaaaDoor.Aw
