/- An abstract program logic over the model, second part: what an operation, a region, a body. -/
import Derived.Test.YtkpjcmiijlpcaaaDoorAwA
namespace Go.Proofs.YtkpjcmiijlpcaaaDoor.Aw
open Go
inductive TD where
 | unk
 | scalar
 | slice (e:TypeId)
 | struct (fs:List (Nat×TypeId))
 | array (n:Nat) (e:TypeId)
 | map (k e:TypeId)
def TD.isAgg:TD→Bool
 | .struct _=>true
 | .array _ _=>true
 | _=>false
def TD.isSl (d:TD) (e:TypeId):Bool:=match d with
 | .slice e'=>e'==e
 | _=>false
structure TI where
 d:TD
 size:Nat
 bytes:Nat
 zero:List AV
 t:Option Ty
 eq:Bool
abbrev Tab:=List (TypeId×TI)
def TI.known (i:TI):Bool:=match i.d with
 | .unk=>false
 | _=>true
def TI.unk:TI:=⟨.unk,0,0,[],none,false⟩
def Tab.at_ (T:Tab) (t:TypeId):TI:=(T.lookup t).getD TI.unk
structure Tells where
 pre:List Prop
 v:AV
 news:List Ob
structure Tells2 where
 pre:List Prop
 v:AV
 olds:List (Option Ob)
 news:List Ob
structure TellsP where
 pre:List Prop
 b:Bool
 x:Value
 v:AV
 olds:List (Option Ob)
 news:List Ob
structure TellsI where
 pre:List Prop
 cnt:Nat
 arg:Nat→List AV
structure Env where
 one:FuncId→List AV→Option Tells
 two:FuncId→List AV→List Ob→Option Tells2
 pan:FuncId→Option (List AV→List Ob→Option TellsP):=fun _=>none
 iter:FuncId→List AV→List AV→List Ob→Option TellsI:=fun _ _ _ _=>none
 isIt:Bool:=false
 yl:Nat:=0
 ycnt:Nat:=0
 yarg:Nat→List AV:=fun _=>[]
 cuts:List Nat:=[]
 takes:List Nat:=[]
 eats:List Nat:=[]
def Env.cut (env:Env) (l:List Nat):Env:={env with cuts:=l}
def TellsP.two (t:TellsP):Tells2:=⟨t.pre,t.v,t.olds,t.news⟩
def Env.hint (env:Env) (takes eats:List Nat):Env:={env with takes:=takes,eats:=eats}
def Env.pans (env:Env):Env:={env with two:=fun g as obs=>match env.pan g with
 | none=>none
 | some f=>(f as obs).map TellsP.two}
structure Res where
 gs:List Prop
 v:AV
 upd:List (Nat×Ob)
def AV.shift (d:Nat):AV→AV
 | .ptr k off=>.ptr (k+d) off
 | .row k=>.row (k+d)
 | .rptr k i off=>.rptr (k+d) i off
 | .view k lo n e t=>.view (k+d) lo n e t
 | .prow k=>.prow (k+d)
 | .pptr k i=>.pptr (k+d) i
 | .mp k=>.mp (k+d)
 | .itr k=>.itr (k+d)
 | .nptr k=>.nptr (k+d)
 | .agg c=>.agg (c.shift d)
 | .tuple c=>.tuple (c.shift d)
 | .fn f a c=>.fn f (a.shift d) (c.shift d)
 | .iface t v=>.iface t (v.shift d)
 | .cons a b=>.cons (a.shift d) (b.shift d)
 | a=>a
def Ob.shift (d:Nat):Ob→Ob
 | .cells e cs=>.cells e (cs.map (AV.shift d))
 | .mit m n seen c=>.mit (m+d) n seen c
 | .prow e cs=>.prow e (cs.map (AV.shift d))
 | o=>o
def AV.refs:AV→List Nat
 | .ptr k _=>[k]
 | .row k=>[k]
 | .rptr k _ _=>[k]
 | .view k _ _ _ _=>[k]
 | .prow k=>[k]
 | .pptr k _=>[k]
 | .mp k=>[k]
 | .itr k=>[k]
 | .nptr k=>[k]
 | .agg c=>c.refs
 | .tuple c=>c.refs
 | .fn _ a c=>a.refs++c.refs
 | .iface _ v=>v.refs
 | .cons a b=>a.refs++b.refs
 | _=>[]
def Ob.refs:Ob→List Nat
 | .cells _ cs=>cs.flatMap AV.refs
 | .prow _ cs=>cs.flatMap AV.refs
 | .mit m _ _ _=>[m]
 | _=>[]
def posOf:List Nat→Nat→Nat→Option Nat
 | [],_,_=>none
 | x::l,k,p=>bif x==k then some p else posOf l k (p+1)
def AV.ren (perm:List Nat):AV→AV
 | .ptr k off=>match posOf perm k 0 with
  | some p=>.ptr p off
  | none=>.undef
 | .row k=>match posOf perm k 0 with
  | some p=>.row p
  | none=>.undef
 | .rptr k i off=>match posOf perm k 0 with
  | some p=>.rptr p i off
  | none=>.undef
 | .view k lo n e t=>match posOf perm k 0 with
  | some p=>.view p lo n e t
  | none=>.undef
 | .prow k=>match posOf perm k 0 with
  | some p=>.prow p
  | none=>.undef
 | .pptr k i=>match posOf perm k 0 with
  | some p=>.pptr p i
  | none=>.undef
 | .mp k=>match posOf perm k 0 with
  | some p=>.mp p
  | none=>.undef
 | .itr k=>match posOf perm k 0 with
  | some p=>.itr p
  | none=>.undef
 | .nptr k=>match posOf perm k 0 with
  | some p=>.nptr p
  | none=>.undef
 | .agg c=>.agg (c.ren perm)
 | .tuple c=>.tuple (c.ren perm)
 | .fn f a c=>.fn f (a.ren perm) (c.ren perm)
 | .iface t v=>.iface t (v.ren perm)
 | .cons a b=>.cons (a.ren perm) (b.ren perm)
 | a=>a
def Ob.ren (perm:List Nat):Ob→Ob
 | .cells e cs=>.cells e (cs.map (AV.ren perm))
 | .prow e cs=>.prow e (cs.map (AV.ren perm))
 | .mit m n seen c=>match posOf perm m 0 with
  | Option.some p=>.mit p n seen c
  | Option.none=>.dead
 | o=>o
def AV.reN (f:Nat→Nat):AV→AV
 | .ptr k off=>.ptr (f k) off
 | .row k=>.row (f k)
 | .rptr k i off=>.rptr (f k) i off
 | .view k lo n e t=>.view (f k) lo n e t
 | .prow k=>.prow (f k)
 | .pptr k i=>.pptr (f k) i
 | .mp k=>.mp (f k)
 | .itr k=>.itr (f k)
 | .nptr k=>.nptr (f k)
 | .agg c=>.agg (c.reN f)
 | .tuple c=>.tuple (c.reN f)
 | .fn g a c=>.fn g (a.reN f) (c.reN f)
 | .iface t v=>.iface t (v.reN f)
 | .cons a b=>.cons (a.reN f) (b.reN f)
 | a=>a
def Ob.reN (f:Nat→Nat):Ob→Ob
 | .cells e cs=>.cells e (cs.map (AV.reN f))
 | .prow e cs=>.prow e (cs.map (AV.reN f))
 | .mit m n seen c=>.mit (f m) n seen c
 | o=>o
def Ob.noIt:Ob→Bool
 | .mit _ _ _ _=>false
 | _=>true
def nodupB:List Nat→Bool
 | []=>true
 | x::l => !l.contains x&&nodupB l
def addNew:List Nat→List Nat→List Nat
 | acc,[]=>acc
 | acc,x::l=>addNew (bif acc.contains x then acc else acc++[x]) l
def reachH (H:Nat→Ob):Nat→List Nat→List Nat→List Nat
 | 0,_,acc=>acc
 | f+1,l,acc=>match l with
  | []=>acc
  | _=>reachH H f (l.flatMap fun k=>(H k).refs) (addNew acc (l.filter fun k=>(H k).live))
def clo (H:Nat→Ob):Nat→List Nat→List Nat
 | 0,_=>[]
 | f+1,l=>match l with
  | []=>[]
  | _=>l++clo H f (l.flatMap fun k=>(H k).refs)
def AV.rowRefs:AV→List Nat
 | .row k=>[k]
 | .view k _ _ _ _=>[k]
 | .agg c=>c.rowRefs
 | .tuple c=>c.rowRefs
 | .fn _ a c=>a.rowRefs++c.rowRefs
 | .iface _ v=>v.rowRefs
 | .cons a b=>a.rowRefs++b.rowRefs
 | _=>[]
def AV.hasRow:AV→Bool
 | .row _=>true
 | .view _ _ _ _ _=>true
 | .agg c=>c.hasRow
 | .tuple c=>c.hasRow
 | .fn _ a c=>a.hasRow||c.hasRow
 | .iface _ v=>v.hasRow
 | .cons a b=>a.hasRow||b.hasRow
 | _=>false
def Ty.flat:Ty→Bool
 | .list _ _=>false
 | .ol _ _=>false
 | .pair a b=>a.flat&&b.flat
 | _=>true
def Ty.oflat:Ty→Bool
 | .list _ _=>false
 | .ol _ t=>t.flat
 | .pair a b=>a.oflat&&b.oflat
 | _=>true
def Ty.noOl:Ty→Bool
 | .ol _ _=>false
 | .pair a b=>a.noOl&&b.noOl
 | _=>true
def getOl:(t:Ty)→t.den→Nat→Option (Σ (_:TypeId) (t':Ty),List t'.den)
 | .ol e t,xs,0=>some ⟨e,t,xs⟩
 | .pair a b,x,off=>bif off.blt a.size then getOl a x.1 off else getOl b x.2 (off-a.size)
 | _,_,_=>none
def putOl (e':TypeId) (t':Ty) (ys:List t'.den):(t:Ty)→t.den→Nat→Option t.den
 | .ol e t,_,0=>if h:e'=e∧t'=t then some (h.2▸ys) else none
 | .pair a b,x,off=>bif off.blt a.size then (match putOl e' t' ys a x.1 off with
  | some y=>some (y,x.2)
  | none=>none) else (match putOl e' t' ys b x.2 (off-a.size) with
  | some y=>some (x.1,y)
  | none=>none)
 | _,_,_=>none
def updD:(t:Ty)→t.den→Nat→List AV→Option t.den
 | .pair a b,x,off,l=>bif off==0&&l.length==a.size+b.size then (bif a.noOl&&b.noOl then dec1 (.pair a b) l else none)
  else bif (off+l.length).ble a.size then (match updD a x.1 off l with
   | some y=>some (y,x.2)
   | none=>none)
  else bif a.size.ble off then (match updD b x.2 (off-a.size) l with
   | some y=>some (x.1,y)
   | none=>none)
  else none
 | .ol _ _,_,_,_=>none
 | t,_,off,l=>bif off==0 then dec1 t l else none
def AV.noList:AV→Bool
 | .list _ _ _=>false
 | .tl _ _ _=>false
 | .lptr _ _ _ _ _=>false
 | .agg c=>c.noList
 | .tuple c=>c.noList
 | .fn _ a c=>a.noList&&c.noList
 | .iface _ v=>v.noList
 | .cons a b=>a.noList&&b.noList
 | _=>true
def Ob.noList:Ob→Bool
 | .cells _ cs=>cs.all AV.noList
 | .prow _ cs=>cs.all AV.noList
 | .row _ t _=>t.flat
 | .map _ t _=>t.flat
 | .orow _ t _=>t.oflat
 | .hrow _ _ _ _ _=>false
 | _=>true
def toV:AV→Option Value
 | .int k n=>some (.int k n)
 | .bool b=>some (.bool b)
 | .str s=>some (.string s)
 | .nilp=>some (.pointer none)
 | _=>none
def ofV:Value→Option AV
 | .int k n=>some (.int k n)
 | .bool b=>some (.bool b)
 | .string s=>some (.str s)
 | .pointer none=>some .nilp
 | _=>none
def ofSem:Sem Value→Option AV
 | .pure v=>ofV v
 | _=>none
def cut (l:List AV) (o n:Nat):List AV:=(l.drop o).take n
def putL:List AV→Nat→List AV→List AV
 | cs,_,[]=>cs
 | cs,o,x::r=>putL (cs.set o x) (o+1) r
def aggOf (i:TI) (cs:List AV):Option AV:=
 match i.d with
 | .struct _=>if cs.length=i.size then some (.agg (AV.ofList cs)) else none
 | .array _ _=>if cs.length=i.size then some (.agg (AV.ofList cs)) else none
 | .unk=>none
 | _=>match cs with
  | [v]=>some v
  | _=>none
def partOf (T:Tab) (i:TI) (f:Nat):Option (Nat×Nat):=
 match i.d with
 | .struct fs=>match fs[f]? with
  | some (o,t)=>match (T.at_ t).d with
   | .unk=>none
   | _=>some (o,(T.at_ t).size)
  | none=>none
 | .array n e=>match (T.at_ e).d with
  | .unk=>none
  | _=>if f<n then some (f*(T.at_ e).size,(T.at_ e).size) else none
 | _=>none
def fillL (T:Tab) (i:TI):List AV→List (Nat×AV)→Option (List AV)
 | cs,[]=>some cs
 | cs,(f,v)::r=>match partOf T i f with
  | some (o,n)=>match v.cells? with
   | some l=>if l.length=n∧o+n≤cs.length then fillL T i (putL cs o l) r else none
   | none=>none
  | none=>none
def scalarEq:Option Ty→List AV→List AV→Option Bool
 | some (.int _),[.int k a],[.int k' b]=>if k=k' then some (a==b) else none
 | some .bool,[.bool a],[.bool b]=>some (a==b)
 | some .str,[.str a],[.str b]=>some (a==b)
 | _,_,_=>none
def andO:Option Bool→Option Bool→Option Bool
 | some a,some b=>some (a&&b)
 | _,_=>none
def eqFs (eq:TypeId→List AV→List AV→Option Bool) (T:Tab) (l1 l2:List AV):List (Nat×TypeId)→Option Bool
 | []=>some true
 | (o,t)::r=>andO (eq t (cut l1 o (T.at_ t).size) (cut l2 o (T.at_ t).size)) (eqFs eq T l1 l2 r)
def eqIs (eq:TypeId→List AV→List AV→Option Bool) (e:TypeId) (s:Nat) (l1 l2:List AV):List Nat→Option Bool
 | []=>some true
 | i::r=>andO (eq e (cut l1 (i*s) s) (cut l2 (i*s) s)) (eqIs eq e s l1 l2 r)
def eqA (T:Tab):Nat→TypeId→List AV→List AV→Option Bool
 | 0,_,_,_=>none
 | f+1,t,l1,l2=>match (T.at_ t).d with
  | .scalar=>scalarEq (T.at_ t).t l1 l2
  | .struct fs=>eqFs (eqA T f) T l1 l2 fs
  | .array n e=>eqIs (eqA T f) e (T.at_ e).size l1 l2 (List.range n)
  | _=>none
def eqAgg (T:Tab) (t:TypeId) (c1 c2:AV):Option Bool:=if (T.at_ t).eq=true∧(T.at_ t).d.isAgg=true∧c1.chain=true∧c2.chain=true then eqA T 12 t c1.toList c2.toList else none
def decs (t:Ty):Nat→List AV→Option (List t.den)
 | 0,[]=>some []
 | n+1,cs=>match dec t cs with
  | some (x,r)=>match decs t n r with
   | some xs=>some (x::xs)
   | none=>none
  | none=>none
 | _,_=>none
def strAt (s:ByteArray) (i:Nat):Int:=if h:i<s.size then ((s[i]'h).toNat:Int) else 0
def padTy:Nat→Ty
 | 0=>.unit
 | n+1=>.pair .bool (padTy n)
def viewOf (H:Nat→Ob) (k lo n:Nat) (e:TypeId) (t:Ty):Option (List t.den):=match H k with
 | .row e' t' xs=>if h:e'=e∧t'=t then some (((h.2▸xs:List t.den).drop lo).take n) else none
 | .cells _ cs=>if 0<t.size then decs t n (cut cs lo (n*t.size)) else none
 | _=>none
def AV.agg? : AV→Bool
 | .agg _=>true
 | _=>false
def AV.lend (H:Nat→Ob):AV→AV
 | .row k=>match H k with
  | .row e t xs=>.list e t xs
  | _=>.undef
 | .tl e t xs=>.list e t xs
 | .nils e t=>.list e t []
 | .emp e t=>.list e t []
 | .view k lo n e t=>match viewOf H k lo n e t with
  | some xs=>.list e t xs
  | none=>.undef
 | .ptr _ _=>.undef
 | .rptr _ _ _=>.undef
 | .prow _=>.undef
 | .pptr _ _=>.undef
 | .mp _=>.undef
 | .itr _=>.undef
 | .nptr _=>.undef
 | .agg c=>.agg (c.lend H)
 | .tuple c=>.tuple (c.lend H)
 | .fn f a c=>.fn f (a.lend H) (c.lend H)
 | .iface t v=>.iface t (v.lend H)
 | .cons a b=>.cons (a.lend H) (b.lend H)
 | a=>a
def AV.lendR (H:Nat→Ob):AV→AV
 | .row k=>match H k with
  | .row e t xs=>.list e t xs
  | _=>.undef
 | .tl e t xs=>.list e t xs
 | .nils e t=>.list e t []
 | .emp e t=>.list e t []
 | .view k lo n e t=>match viewOf H k lo n e t with
  | some xs=>.list e t xs
  | none=>.undef
 | .agg c=>.agg (c.lendR H)
 | .tuple c=>.tuple (c.lendR H)
 | .fn f a c=>.fn f (a.lendR H) (c.lendR H)
 | .iface t v=>.iface t (v.lendR H)
 | .cons a b=>.cons (a.lendR H) (b.lendR H)
 | a=>a
def elems (H:Nat→Ob):AV→Option (Σ (_:TypeId) (t:Ty),List t.den)
 | .row k=>match H k with
  | .row e t xs=>some ⟨e,t,xs⟩
  | _=>none
 | .list e t xs=>some ⟨e,t,xs⟩
 | .tl e t xs=>some ⟨e,t,xs⟩
 | .nils e t=>some ⟨e,t,[]⟩
 | .emp e t=>some ⟨e,t,[]⟩
 | .view k lo n e t=>(viewOf H k lo n e t).map fun xs=>⟨e,t,xs⟩
 | _=>none
def evA (s:List AV):Operand→AV
 | .tmp t=>s.getD t .undef
 | .const (.int k n)=>.int k n
 | .const (.bool b)=>.bool b
 | .const (.string s)=>.str s
 | .const (.slice none 0 0)=>.nil0
 | .const (.pointer none)=>.nilp
 | .const .nilFunc=>.nilf
 | .const .nilIface=>.nili
 | .func f=>.fn (.func f) .nl .nl
 | .global g=>globT g
 | _=>.undef
def ok (v:AV):Option Res:=some ⟨[],v,[]⟩
def okIf (gs:List Prop) (v:AV):Option Res:=some ⟨gs,v,[]⟩
def typed (T:Tab) (ty:TypeId):AV→AV
 | .nil0=>match (T.at_ ty).d with
  | .slice e=>match (T.at_ e).t with
   | some t=>.nils e t
   | none=>.nil0
  | _=>.nil0
 | v=>v
noncomputable def rept {α:Type} (n:Nat) (z:α):List α:=Classical.choose (⟨List.replicate n z,rfl⟩:∃l,l=List.replicate n z)
theorem rept_eq {α:Type} (n:Nat) (z:α):rept n z=List.replicate n z:=Classical.choose_spec (⟨List.replicate n z,rfl⟩:∃l,l=List.replicate n z)
def semAppend (T:Tab) (H:Nat→Ob) (nid:Nat) (ts:TypeId) (s x:AV):Option Res:=
 match (T.at_ ts).d with
 | .slice e=>match (T.at_ e).t,elems H x with
  | some t,some ⟨e',t',ys⟩=>if h:e'=e∧t'=t∧(T.at_ e).size=t.size∧0<t.size∧(T.at_ e).known=true∧0<(T.at_ e).bytes then
   let zs:List t.den:=h.2.1▸ys
   match typed T ts s with
   | .row k=>match H k with
    | .row e1 t1 xs=>if h1:e1=e∧t1=t then
     some ⟨[((h1.2▸xs:List t.den).length+zs.length)*(T.at_ e).bytes≤140737488355328],.row nid,[(k,.dead),(nid,.row e t ((h1.2▸xs:List t.den)++zs))]⟩
     else none
    | _=>none
   | .nils e1 t1=>if e1=e∧t1=t then some ⟨[zs.length*(T.at_ e).bytes≤140737488355328],.row nid,[(nid,.row e t zs)]⟩ else none
   | .tl e1 t1 xs=>if h1:e1=e∧t1=t then some ⟨[((h1.2▸xs:List t.den).length+zs.length)*(T.at_ e).bytes≤140737488355328,0<(h1.2▸xs:List t.den).length,0<zs.length],.row nid,[(nid,.row e t ((h1.2▸xs:List t.den)++zs))]⟩ else none
   | .view k lo n e1 t1=>match H k,viewOf H k lo n e t with
    | .cells _ _,some xs=>if e1=e∧t1=t then some ⟨[(xs.length+zs.length)*(T.at_ e).bytes≤140737488355328,0<n,0<zs.length],.row nid,[(nid,.row e t (xs++zs))]⟩ else none
    | _,_=>none
   | _=>none
   else none
  | _,_=>none
 | _=>none
def semAppendZ (T:Tab) (nid:Nat) (ts tn:TypeId) (s x:AV):Option Res:=
 match s,x with
 | .tl e1 t1 xs,.int _ k=>match (T.at_ ts).d,(T.at_ tn).d,(T.at_ tn).t with
  | .slice e,.scalar,some (.int _)=>match dec1 t1 (T.at_ e).zero with
   | some z=>if e1=e∧(T.at_ e).size=t1.size∧0<t1.size∧(T.at_ e).known=true∧0<(T.at_ e).bytes then
    some ⟨[(xs.length+k.toNat)*(T.at_ e).bytes≤140737488355328,0<xs.length,0<k],.row nid,[(nid,.row e t1 (xs++List.replicate k.toNat z))]⟩ else none
   | none=>none
  | _,_,_=>none
 | _,_=>none
def semAppendO (T:Tab) (H:Nat→Ob) (nid:Nat) (ts:TypeId) (k j:Nat):Option Res:=
 match (T.at_ ts).d,H k,H j with
 | .slice e,.orow e1 t1 xs,.orow e2 t2 ys=>if h:e1=e∧e2=e∧t2=t1∧(T.at_ e).size=t1.size∧0<t1.size∧(T.at_ e).known=true∧0<(T.at_ e).bytes∧k≠j then
  some ⟨[(xs.length+ys.length)*(T.at_ e).bytes≤140737488355328],.row nid,[(k,.dead),(j,.dead),(nid,.orow e t1 (xs++(h.2.2.1▸ys:List t1.den)))]⟩
  else none
 | _,_,_=>none
def semAppendP (T:Tab) (H:Nat→Ob) (nid:Nat) (ts:TypeId) (k j:Nat):Option Res:=
 match (T.at_ ts).d,H k,H j with
 | .slice e,.prow e1 xs,.prow e2 ys=>if e1=e∧e2=e∧(T.at_ e).size=1∧(T.at_ e).known=true∧0<(T.at_ e).bytes∧xs.all AV.one=true∧ys.all AV.one=true then
  some ⟨[(xs.length+ys.length)*(T.at_ e).bytes≤140737488355328],.prow nid,[(k,.dead),(nid,.prow e (xs++ys))]⟩
  else none
 | _,_,_=>none
def isNil (H:Nat→Ob):AV→Option Bool
 | .nil0=>some true
 | .nils _ _=>some true
 | .emp _ _=>some false
 | .list _ _ (_::_)=>some false
 | .row k=>match H k with
  | .row _ _ (_::_)=>some false
  | _=>none
 | _=>none
def oldOk:Ob→Ob→Bool
 | _,.dead=>true
 | .cells e _,.cells e' _=>e==e'
 | .row e t _,.row e' t' _=>e==e'&&decide (t=t')
 | .prow e cs,.prow e' cs'=>e==e'&&cs.length==cs'.length
 | .map a t _,.map a' t' _=>a==a'&&decide (t=t')
 | .orow e t _,.orow e' t' _=>e==e'&&decide (t=t')
 | _,_=>false
def oldsOk:List Ob→List (Option Ob)→Bool
 | [],[]=>true
 | _::l,none::m=>oldsOk l m
 | o::l,some o'::m=>oldOk o o'&&oldsOk l m
 | _,_=>false
def oldsIn (H:Nat→Ob) (perm:List Nat):List Nat→List (Option Ob)→Bool
 | k::l,none::m=>(H k).refs.all perm.contains&&oldsIn H perm l m
 | _::l,some _::m=>oldsIn H perm l m
 | _,_=>true
def oldsEq:List Ob→List (Option Ob)→List Prop
 | o::l,some o'::m=>(match o,o' with
  | .row _ _ xs,.row _ _ ys=>[ys.length=xs.length]
  | .orow _ _ xs,.orow _ _ ys=>[ys.length=xs.length]
  | _,_=>[])++oldsEq l m
 | _::l,none::m=>oldsEq l m
 | _,_=>[]
def oldsUpd (f:Nat→Nat):List Nat→List (Option Ob)→List (Nat×Ob)
 | k::l,some o::m=>(k,o.reN f)::oldsUpd f l m
 | _::l,none::m=>oldsUpd f l m
 | _,_=>[]
def finObs:List Ob→List (Option Ob)→List Ob→List Ob
 | o::l,some o'::m,n=>o'::finObs l m n
 | o::l,none::m,n=>o::finObs l m n
 | l,_,n=>l++n
def semCall2 (env:Env) (H:Nat→Ob) (nid:Nat) (g:FuncId) (args:List AV) (lends:Bool):Option Res:=
 let as1:=bif lends then args.map (AV.lendR H) else args
 let lent:=bif lends then args.flatMap AV.rowRefs else []
 let perm:=reachH H 8 (as1.flatMap AV.refs) []
 bif nodupB perm&&(perm.all fun k=>(H k).noIt)&&lent.all fun k => !perm.contains k then
  let obs:=perm.map fun k=>(H k).ren perm
  match env.two g (as1.map (AV.ren perm)) obs with
  | none=>none
  | some t=>bif oldsOk obs t.olds&&oldsIn H perm perm t.olds&&(lent.isEmpty||(t.v.noList&&(finObs obs t.olds t.news).all Ob.noList)) then
   let f:=fun p=>perm.getD p (nid+(p-perm.length))
   some ⟨t.pre++oldsEq obs t.olds,t.v.reN f,oldsUpd f perm t.olds++(t.news.zipIdx nid).map fun p=>(p.2,p.1.reN f)⟩
   else none
 else none
def semCall (T:Tab) (env:Env) (H:Nat→Ob) (nid:Nat) (types:List TypeId) (f:AV) (xs:List AV):Option Res:=
 match f with
 | .fn (.func g) a c=>if a.chain&&c.chain then
  let args:=a.toList++(xs.zipIdx.map fun p=>typed T (types.getD p.2 0) p.1)++c.toList
  match env.one g (args.map (AV.lend H)) with
  | some r=>if (r.v.noList&&r.news.all Ob.noList) || !(args.any AV.hasRow) then
   some ⟨r.pre,r.v.shift nid,(r.news.zipIdx nid).map fun p=>(p.2,p.1.shift nid)⟩
   else none
  | none=>match semCall2 env H nid g args true with
   | some r=>some r
   | none=>semCall2 env H nid g args false
  else none
 | _=>none
def semClear (T:Tab) (H:Nat→Ob) (t:TypeId) (x:AV):Option Res:=match (T.at_ t).d,x with
 | .slice e,.view k lo n _ ty0=>match H k,(T.at_ e).zero with
  | .row e1 (.int ik) xs,[.int ik' z]=>if ik'=ik∧(T.at_ e).known=true∧(T.at_ e).size=1∧ty0.size=1 then
   some ⟨[],.tuple .nl,[(k,.row e1 (.int ik) (List.take lo xs++(List.replicate n z++List.drop (lo+n) xs)))]⟩
   else none
  | _,_=>none
 | _,_=>none
def semBuiltin (T:Tab) (H:Nat→Ob) (nid:Nat) (b:Builtin) (types:List TypeId) (type:TypeId) (xs:List AV):Option Res:=
 match b,xs with
 | .len,[x]=>match types with
  | [t]=>match (T.at_ t).d with
   | .slice _=>match typed T t x with
    | .nil0=>none
    | .prow k=>match H k with
     | .prow _ cs=>ok (.int .i64 cs.length)
     | _=>none
    | .row k=>match H k with
     | .orow _ _ xs=>ok (.int .i64 xs.length)
     | .row _ _ xs=>ok (.int .i64 xs.length)
     | _=>none
    | .view k lo n e' t'=>match H k with
     | .cells _ _=>ok (.int .i64 n)
     | _=>match elems H (.view k lo n e' t') with
      | some ⟨_,_,l⟩=>ok (.int .i64 l.length)
      | none=>none
    | y=>match elems H y with
     | some ⟨_,_,l⟩=>ok (.int .i64 l.length)
     | none=>none
   | .array n _=>ok (.int .i64 n)
   | .map _ _=>match x with
    | .mp k=>match H k with
     | .map _ _ es=>ok (.int .i64 es.length)
     | _=>none
    | _=>none
   | .scalar=>match x,(T.at_ t).t with
    | .str s,some .str=>ok (.int .i64 s.size)
    | _,_=>none
   | _=>none
  | _=>none
 | .append,[s,x]=>if types=[types.getD 0 0,types.getD 0 0] then (match s,x with
  | .prow k,.prow j=>semAppendP T H nid (types.getD 0 0) k j
  | .row k,.row j=>match H k with
   | .orow _ _ _=>semAppendO T H nid (types.getD 0 0) k j
   | _=>semAppend T H nid (types.getD 0 0) s (typed T (types.getD 0 0) x)
  | _,_=>semAppend T H nid (types.getD 0 0) s (typed T (types.getD 0 0) x)) else if types=[types.getD 0 0,types.getD 1 0] then semAppendZ T nid (types.getD 0 0) (types.getD 1 0) s x else none
 | .max,[x,y]=>match toV x,toV y with
  | some vx,some vy=>(ofSem (Builtin.max_ types.toArray type #[vx,vy])).bind ok
  | _,_=>none
 | .min,[x,y]=>match toV x,toV y with
  | some vx,some vy=>(ofSem (Builtin.min_ types.toArray type #[vx,vy])).bind ok
  | _,_=>none
 | .clear,[x]=>match types with
  | [t]=>semClear T H t x
  | _=>none
 | _,_=>none
def bounds (lo hi:Option AV) (n:Nat):Option (Int×Int):=match lo,hi with
 | none,none=>some (0,n)
 | some (.int _ l),none=>some (l,n)
 | none,some (.int _ h)=>some (0,h)
 | some (.int _ l),some (.int _ h)=>some (l,h)
 | _,_=>none
def mIdx {α:Type} (key:Int):List (Int×α)→Nat
 | []=>0
 | p::l=>bif key==p.1 then 0 else mIdx key l+1
def mGet {α:Type} (key:Int) (z:α) (es:List (Int×α)):α:=((es[mIdx key es]?).map (·.2)).getD z
def mPut {α:Type} (key:Int) (x:α) (es:List (Int×α)):List (Int×α):=bif (mIdx key es).blt es.length then es.set (mIdx key es) (key,x) else es++[(key,x)]
def mIns {α:Type} (key:Int) (z:α) (es:List (Int×α)):List (Int×α):=bif (mIdx key es).blt es.length then es else es++[(key,z)]
def mapTy (T:Tab) (t:TypeId):Option (Bool×Ty×List AV):=match (T.at_ t).d with
 | .map _ e=>if (T.at_ e).known=true then match (T.at_ e).t with
  | some ty=>if (T.at_ e).size=ty.size then some ((T.at_ e).d.isAgg,ty,(T.at_ e).zero) else none
  | none=>none
  else none
 | _=>none
def ptrNil:AV→Option Bool
 | .nilp=>some true
 | .ptr _ _=>some false
 | .rptr _ _ _=>some false
 | .lptr _ _ _ _ _=>some false
 | .pptr _ _=>some false
 | _=>none
def semBin (T:Tab) (nl:Option Bool) (op:BinOp) (t:TypeId) (x y:AV):Option Res:=match op,x,y with
 | .eql,.bool a,.bool b=>match (T.at_ t).d,(T.at_ t).t with
  | .scalar,some .bool=>ok (.bool (a==b))
  | _,_=>none
 | .neq,.bool a,.bool b=>match (T.at_ t).d,(T.at_ t).t with
  | .scalar,some .bool=>ok (.bool (!(a==b)))
  | _,_=>none
 | .eql,_,.nil0=>match (T.at_ t).d with
  | .slice _=>nl.bind fun b=>ok (.bool b)
  | _=>none
 | .neq,_,.nil0=>match (T.at_ t).d with
  | .slice _=>nl.bind fun b=>ok (.bool (!b))
  | _=>none
 | .eql,x,.nilp=>match (T.at_ t).d,(T.at_ t).zero with
  | .scalar,[.nilp]=>(ptrNil x).bind fun b=>ok (.bool b)
  | _,_=>none
 | .neq,x,.nilp=>match (T.at_ t).d,(T.at_ t).zero with
  | .scalar,[.nilp]=>(ptrNil x).bind fun b=>ok (.bool (!b))
  | _,_=>none
 | .quo,.int k x,.int k' y=>if k=k' then okIf [y≠0] (.int k (k.wrap (x.tdiv y))) else none
 | .rem,.int k x,.int k' y=>if k=k' then okIf [y≠0] (.int k (x.tmod y)) else none
 | .shl,.int k x,.int _ y=>okIf [0≤y] (.int k (k.wrap (x*2 ^ (min y.toNat k.bits))))
 | .shr,.int k x,.int _ y=>okIf [0≤y] (.int k (x.fdiv (2 ^ (min y.toNat k.bits))))
 | .add,.str x,.str y=>okIf [x.size+y.size≤9223372036854775807] (.str (x++y))
 | .eql,.agg c1,.agg c2=>(eqAgg T t c1 c2).bind fun b=>ok (.bool b)
 | .neq,.agg c1,.agg c2=>(eqAgg T t c1 c2).bind fun b=>ok (.bool (!b))
 | op,vx,vy=>match toV vx,toV vy with
  | some vx,some vy=>(ofSem (binOp op t vx vy)).bind ok
  | _,_=>none
def semSlice (T:Tab) (H:Nat→Ob) (d:TD) (x:AV) (lo hi:Option AV):Option Res:=match d,x with
 | .slice e,.list e' ty xs=>if (T.at_ e).known=true∧(T.at_ e).size=ty.size then
  match lo,hi with
  | none,some (.int _ h)=>okIf [0≤h,h≤(xs.length:Int)] (.list e' ty (xs.take h.toNat))
  | some (.int _ l),none=>okIf [0≤l,l≤(xs.length:Int)] (.list e' ty (xs.drop l.toNat))
  | some (.int _ l),some (.int _ h)=>okIf [0≤l,l≤h,h≤(xs.length:Int)] (.list e' ty ((xs.take h.toNat).drop l.toNat))
  | none,none=>ok (.list e' ty xs)
  | _,_=>none
  else none
 | .slice e,.row k=>match H k with
  | .row e' ty xs=>if (T.at_ e).known=true∧(T.at_ e).size=ty.size then
   match bounds lo hi xs.length with
   | some (l,h)=>okIf [0≤l,l≤h,h≤(xs.length:Int)] (.view k l.toNat (h-l).toNat e' ty)
   | none=>none
   else none
  | _=>none
 | .slice e,.view k o n e' ty=>match H k with
  | .row _ ty' _=>if (T.at_ e).known=true∧(T.at_ e).size=ty.size∧ty'=ty then
   match bounds lo hi n with
   | some (l,h)=>okIf [0≤l,l≤h,h≤(n:Int)] (.view k (o+l.toNat) (h-l).toNat e' ty)
   | none=>none
   else none
  | .cells _ _=>if (T.at_ e).known=true∧(T.at_ e).size=ty.size then
   match bounds lo hi n with
   | some (l,h)=>okIf [0≤l,l≤h,h≤(n:Int),(n:Int)≤h] (.view k (o+l.toNat*ty.size) (h-l).toNat e' ty)
   | none=>none
   else none
  | _=>none
 | .array m e,.ptr k o=>match H k,(T.at_ e).t with
  | .cells _ _,some ty=>if (T.at_ e).known=true∧(T.at_ e).size=ty.size then
   match bounds lo hi m with
   | some (l,h)=>okIf [0≤l,l≤h,h≤(m:Int),(m:Int)≤h] (.view k (o+l.toNat*ty.size) (h-l).toNat e ty)
   | none=>none
   else none
  | _,_=>none
 | _,_=>none
def semSlice3 (T:Tab) (d:TD) (x lo hi mx:AV):Option Res:=match d,x,lo,hi,mx with
 | .slice e,.list e' ty xs,.int _ l,.int _ h,.int _ m=>if (T.at_ e).known=true∧(T.at_ e).size=ty.size then
  okIf [0≤l,l≤h,h≤m,m≤(xs.length:Int)] (.list e' ty ((xs.take h.toNat).drop l.toNat))
  else none
 | _,_,_,_,_=>none
def semLookup (T:Tab) (t:TypeId) (ob:Ob) (i:AV):Option Res:=match mapTy T t,i with
 | some (ag,ty,z),.int .i64 key=>match ob,dec1 ty z with
  | .map ag' ty' es,some zx=>if h:ag'=ag∧ty'=ty then ok (valA ag (enc ty (mGet key zx (h.2▸es:List (Int×ty.den))))) else none
  | _,_=>none
 | _,_=>none
def semMapUpdate (T:Tab) (t:TypeId) (k:Nat) (ob:Ob) (i y:AV):Option Res:=match mapTy T t,i,y.cells? with
 | some (ag,ty,_),.int .i64 key,some l=>match ob,dec1 ty l with
  | .map ag' ty' es,some yx=>if h:ag'=ag∧ty'=ty∧y.agg? = ag then some ⟨[],.undef,[(k,.map ag ty (mPut key yx (h.2.1▸es:List (Int×ty.den))))]⟩ else none
  | _,_=>none
 | _,_,_=>none
def semMapEntry (T:Tab) (t:TypeId) (k:Nat) (ob:Ob) (i:AV):Option Res:=match mapTy T t,i with
 | some (ag,ty,z),.int .i64 key=>match ob,dec1 ty z with
  | .map ag' ty' es,some zx=>if h:ag'=ag∧ty'=ty then
   some ⟨[],.tuple (.cons (valA ag (enc ty (mGet key zx (h.2▸es:List (Int×ty.den))))) (.cons (.int .i64 (mIdx key (h.2▸es:List (Int×ty.den)))) .nl)),[(k,.map ag ty (mIns key zx (h.2▸es:List (Int×ty.den))))]⟩
   else none
  | _,_=>none
 | _,_=>none
def semEntryStore (T:Tab) (t:TypeId) (k:Nat) (ob:Ob) (st y:AV):Option Res:=match mapTy T t,st,y.cells? with
 | some (ag,ty,_),.int _ j,some l=>match ob,dec1 ty l with
  | .map ag' ty' es,some yx=>if h:ag'=ag∧ty'=ty∧y.agg? = ag then
   some ⟨[0≤j,j<(es.length:Int)],.undef,[(k,.map ag ty ((h.2.1▸es:List (Int×ty.den)).modify j.toNat fun p=>(p.1,yx)))]⟩
   else none
  | _,_=>none
 | _,_,_=>none
def semRange (T:Tab) (t:TypeId) (k:Nat) (ob:Ob) (nid:Nat):Option Res:=match mapTy T t,ob with
 | some _,.map _ _ es=>some ⟨[],.itr nid,[(nid,.mit k es.length [] 0)]⟩
 | _,_=>none
def semTake (T:Tab) (k nid:Nat) (t:TypeId) (e:TypeId) (ty:Ty) (xs:List ty.den) (i:Int) (off:Nat):Option Res:=
 match getOl ty (xs.getD i.toNat ty.zero) off with
 | some ⟨e',t',ys⟩=>match putOl e' t' [] ty (xs.getD i.toNat ty.zero) off with
  | some x'=>if (T.at_ t).d.isSl e'=true∧t'.noOl=true then some ⟨[],.row nid,[(k,.hrow e ty (xs.set i.toNat x') i off),(nid,.row e' t' ys)]⟩ else none
  | none=>none
 | none=>none
def semGive (T:Tab) (k:Nat) (t:TypeId) (e:TypeId) (ty:Ty) (xs:List ty.den) (i0:Int) (off0:Nat) (i:Int) (off:Nat) (j:Nat) (oj:Ob):Option Res:=
 match oj with
 | .row e' t' ys=>match putOl e' t' ys ty (xs.getD i.toNat ty.zero) off with
  | some y=>if (T.at_ t).d.isSl e'=true∧(T.at_ t).size=1∧off=off0∧j≠k then some ⟨[i=i0],.undef,[(k,.orow e ty (xs.set i.toNat y)),(j,.dead)]⟩ else none
  | none=>none
 | _=>none
def semCut (T:Tab) (H:Nat→Ob) (nid:Nat) (d:TD) (x:AV) (lo hi:Option AV):Option Res:=match d,x,lo,hi with
 | .slice e,.row k,none,some (.int _ h)=>match H k with
  | .row e' ty xs=>if (T.at_ e).known=true∧(T.at_ e).size=ty.size then
   some ⟨[0≤h,h≤(xs.length:Int)],.row nid,[(k,.dead),(nid,.row e' ty (xs.take h.toNat))]⟩
   else none
  | _=>none
 | _,_,_,_=>none
def selfZ (nid:Nat):List AV→List AV
 | .nilp::l=>.nptr nid::l
 | l=>l
noncomputable def toBytes (xs:List Int):ByteArray:=Classical.choose (⟨xs.foldl (fun r n=>r.push (UInt8.ofNat n.toNat)) ByteArray.empty,rfl⟩:∃l,l=xs.foldl (fun r n=>r.push (UInt8.ofNat n.toNat)) ByteArray.empty)
theorem toBytes_eq (xs:List Int):toBytes xs=xs.foldl (fun r n=>r.push (UInt8.ofNat n.toNat)) ByteArray.empty:=Classical.choose_spec (⟨xs.foldl (fun r n=>r.push (UInt8.ofNat n.toNat)) ByteArray.empty,rfl⟩:∃l,l=xs.foldl (fun r n=>r.push (UInt8.ofNat n.toNat)) ByteArray.empty)
noncomputable def semBytes (T:Tab) (H:Nat→Ob) (e:TypeId) (x:AV):Option Res:=match elems H x with
 | some ⟨_,.int .u8,xs⟩=>match (T.at_ e).d,(T.at_ e).t with
  | .scalar,some (.int .u8)=>ok (.str (toBytes xs))
  | _,_=>none
 | _=>none
noncomputable def semOp (T:Tab) (env:Env) (ev:Operand→AV) (H:Nat→Ob) (nid:Nat) (o:Oper):Option Res:=
 match o.op with
 | .move x=>ok (typed T o.type (ev x))
 | .assign x=>ok (typed T o.type (ev x))
 | .pick c a b=>match ev c with
  | .bool s=>match ev a,ev b with
   | .bool x,.bool y=>ok (.bool (bif s then x else y))
   | x,y=>ok (bif s then x else y)
  | _=>none
 | .alloc t=>match (T.at_ t).d with
  | .unk=>none
  | _=>some ⟨[],.ptr nid 0,[(nid,.cells t (bif selfT t then selfZ nid (T.at_ t).zero else (T.at_ t).zero))]⟩
 | .box t x=>match (ev x).cells? with
  | some l=>some ⟨[],.ptr nid 0,[(nid,.cells t l)]⟩
  | none=>none
 | .build t ps=>if (T.at_ t).d.isAgg then
  match fillL T (T.at_ t) (T.at_ t).zero (ps.toList.map fun p=>(p.1,ev p.2)) with
  | some cs=>ok (.agg (AV.ofList cs))
  | none=>none
  else none
 | .buildSlice t n ps=>match (T.at_ t).d with
  | .slice e=>match (T.at_ e).t with
   | some ty=>if (T.at_ e).known=true∧(T.at_ e).size=ty.size∧0<ty.size∧n*ty.size≤16777216 then
    match fillL T ⟨.array n e,n*ty.size,0,[],none,false⟩ ((List.replicate n (T.at_ e).zero).flatten) (ps.toList.map fun p=>(p.1,ev p.2)) with
    | some cs=>match decs ty n cs with
     | some xs=>some ⟨[],.row nid,[(nid,bif ty.noOl then .row e ty xs else .orow e ty xs)]⟩
     | none=>none
    | none=>none
    else none
   | none=>if (T.at_ e).known=true∧(T.at_ e).size=1∧0<n∧n≤16777216 then
    match fillL T ⟨.array n e,n,0,[],none,false⟩ ((List.replicate n (T.at_ e).zero).flatten) (ps.toList.map fun p=>(p.1,ev p.2)) with
    | some cs=>if cs.all AV.one=true then some ⟨[],.prow nid,[(nid,.prow e cs)]⟩ else none
    | none=>none
    else if (T.at_ e).known=true∧0<(T.at_ e).size∧0<n∧n*(T.at_ e).size≤16777216 then
     match fillL T ⟨.array n e,n*(T.at_ e).size,0,[],none,false⟩ ((List.replicate n (T.at_ e).zero).flatten) (ps.toList.map fun p=>(p.1,ev p.2)) with
     | some cs=>if cs.all AV.one=true then some ⟨[],.view nid 0 n e (padTy (T.at_ e).size),[(nid,.cells e cs)]⟩ else none
     | none=>none
    else none
  | _=>none
 | .load t a=>match ev a with
  | .ptr k off=>match H k with
   | .cells _ cs=>(aggOf (T.at_ t) (cut cs off (T.at_ t).size)).bind ok
   | _=>none
  | .rptr k i off=>match H k with
   | .row _ ty xs=>(aggOf (T.at_ t) (cut (enc ty (xs.getD i.toNat ty.zero)) off (T.at_ t).size)).bind ok
   | .orow e ty xs=>bif env.takes.contains (o.dst.getD 0) then semTake T k nid t e ty xs i off
    else (aggOf (T.at_ t) (cut (enc ty (xs.getD i.toNat ty.zero)) off (T.at_ t).size)).bind ok
   | _=>none
  | .lptr _ ty xs i off=>(aggOf (T.at_ t) (cut (enc ty (xs.getD i.toNat ty.zero)) off (T.at_ t).size)).bind ok
  | .pptr k i=>match H k with
   | .prow _ cs=>(aggOf (T.at_ t) (cut cs i (T.at_ t).size)).bind ok
   | _=>none
  | _=>none
 | .store t a x=>match ev a with
  | .ptr k off=>match H k with
   | .cells e cs=>match (ev x).cells? with
    | some l=>if (T.at_ t).known=true∧l.length=(T.at_ t).size∧off+l.length≤cs.length then some ⟨[],.undef,[(k,.cells e (putL cs off l))]⟩ else none
    | none=>none
   | _=>none
  | .rptr k i off=>match H k with
   | .row e ty xs=>match (ev x).cells? with
    | some l=>if (T.at_ t).known=true∧l.length=(T.at_ t).size∧off+l.length≤ty.size then
     match dec1 ty (putL (enc ty (xs.getD i.toNat ty.zero)) off l) with
     | some y=>some ⟨[],.undef,[(k,.row e ty (xs.set i.toNat y))]⟩
     | none=>none
     else none
    | none=>none
   | .orow e ty xs=>match (ev x).cells? with
    | some l=>if (T.at_ t).known=true∧l.length=(T.at_ t).size∧off+l.length≤ty.size then
     match updD ty (xs.getD i.toNat ty.zero) off l with
     | some y=>some ⟨[],.undef,[(k,.orow e ty (xs.set i.toNat y))]⟩
     | none=>none
     else none
    | none=>none
   | .hrow e ty xs i0 off0=>match ev x with
    | .row j=>semGive T k t e ty xs i0 off0 i off j (H j)
    | _=>none
   | _=>none
  | _=>none
 | .nilCheck x=>match ev x with
  | .ptr k off=>ok (.ptr k off)
  | .rptr k i off=>ok (.rptr k i off)
  | .lptr e t xs i off=>ok (.lptr e t xs i off)
  | _=>none
 | .binOp op t x y _=>semBin T (isNil H (ev x)) op t (ev x) (ev y)
 | .unOp op _ x=>match toV (ev x) with
  | some vx=>(ofSem (Op.unary op vx)).bind ok
  | none=>none
 | .convert src dst x=>match ev x,(T.at_ src).d,(T.at_ dst).d,(T.at_ dst).t with
  | .int _ n,.scalar,.scalar,some (.int k)=>ok (.int k (k.wrap n))
  | x,.slice e,.scalar,some .str=>semBytes T H e (typed T src x)
  | _,_,_,_=>none
 | .fieldAddr s x f=>match (T.at_ s).d with
  | .struct _=>match partOf T (T.at_ s) f,ev x with
   | some (o,n),.ptr k off=>if 0<n then ok (.ptr k (off+o)) else none
   | some (o,n),.rptr k i off=>if 0<n then ok (.rptr k i (off+o)) else none
   | some (o,n),.lptr e t xs i off=>if 0<n then ok (.lptr e t xs i (off+o)) else none
   | _,_=>none
  | _=>none
 | .field s x f=>match (T.at_ s).d with
  | .struct fs=>match partOf T (T.at_ s) f,fs[f]?,ev x with
   | some (o,n),some (_,t),.agg c=>if c.chain=true∧(cut c.toList o n).length=n then (aggOf (T.at_ t) (cut c.toList o n)).bind ok else none
   | _,_,_=>none
  | _=>none
 | .indexAddr t x i=>match (T.at_ t).d,ev i with
  | .array n e,.int _ j=>if (T.at_ e).known=true then match ev x with
   | .ptr k off=>okIf [0≤j,j<(n:Int)] (.ptr k (off+j.toNat*(T.at_ e).size))
   | .rptr k i' off=>okIf [0≤j,j<(n:Int)] (.rptr k i' (off+j.toNat*(T.at_ e).size))
   | .lptr e' t' xs i' off=>okIf [0≤j,j<(n:Int)] (.lptr e' t' xs i' (off+j.toNat*(T.at_ e).size))
   | _=>none
   else none
  | .slice e,.int _ j=>match ev x with
   | .row k=>match H k with
    | .row _ ty xs=>if (T.at_ e).known=true∧(T.at_ e).size=ty.size∧0<ty.size then okIf [0≤j,j<(xs.length:Int)] (.rptr k j 0) else none
    | .orow _ ty xs=>if (T.at_ e).known=true∧(T.at_ e).size=ty.size∧0<ty.size then okIf [0≤j,j<(xs.length:Int)] (.rptr k j 0) else none
    | .hrow _ ty xs _ _=>if (T.at_ e).known=true∧(T.at_ e).size=ty.size∧0<ty.size then okIf [0≤j,j<(xs.length:Int)] (.rptr k j 0) else none
    | _=>none
   | .list e' ty xs=>if (T.at_ e).known=true∧(T.at_ e).size=ty.size∧0<ty.size then okIf [0≤j,j<(xs.length:Int)] (.lptr e' ty xs j 0) else none
   | .view k lo n _ ty=>match H k with
    | .row _ ty' _=>if (T.at_ e).known=true∧(T.at_ e).size=ty.size∧ty'=ty∧0<ty.size then okIf [0≤j,j<(n:Int)] (.rptr k (lo+j) 0) else none
    | .cells _ _=>if (T.at_ e).known=true∧(T.at_ e).size=ty.size then okIf [0≤j,j<(n:Int)] (.ptr k (lo+j.toNat*ty.size)) else none
    | _=>none
   | .prow k=>match H k with
    | .prow _ cs=>if (T.at_ e).known=true∧(T.at_ e).size=1 then okIf [0≤j,j<(cs.length:Int)] (.pptr k j.toNat) else none
    | _=>none
   | _=>none
  | _,_=>none
 | .index t x i=>match (T.at_ t).d,ev x,ev i with
  | .array n e,.agg c,.int _ j=>match partOf T (T.at_ t) j.toNat with
   | some (o,m)=>if c.chain=true∧0≤j∧j<(n:Int)∧(cut c.toList o m).length=m then (aggOf (T.at_ e) (cut c.toList o m)).bind ok else none
   | none=>none
  | .scalar,.str b,.int _ j=>if (T.at_ t).t=some .str then okIf [0≤j,j<(b.size:Int)] (.int .u8 (strAt b j.toNat)) else none
  | _,_,_=>none
 | .extract x i=>match ev x with
  | .tuple c=>match (if c.chain then c.toList else [])[i]? with
   | some v=>ok v
   | none=>none
  | _=>none
 | .makeInterface t x=>match (T.at_ t).d,(T.at_ t).t with
  | .struct _,_=>ok (.iface t (ev x))
  | .array _ _,_=>ok (.iface t (ev x))
  | .slice _,_=>ok (.iface t (ev x))
  | .scalar,some (.int _)=>ok (.iface t (ev x))
  | .scalar,some .bool=>ok (.iface t (ev x))
  | .scalar,some .str=>ok (.iface t (ev x))
  | _,_=>none
 | .makeFunc f a c=>ok (.fn f (AV.ofList (a.toList.map ev)) (AV.ofList (c.toList.map ev)))
 | .makeSlice t x y=>match (T.at_ t).d,ev x,ev y with
  | .slice e,.int _ l,.int _ c=>match (T.at_ e).t with
   | some ty=>if (T.at_ e).known=true∧(T.at_ e).size=ty.size∧0<ty.size∧0<(T.at_ e).bytes then
    match dec1 ty (T.at_ e).zero with
    | some z=>bif env.eats.contains (o.dst.getD 0)&&ty.noOl then some ⟨[0≤l,l=c,((T.at_ e).bytes:Int)*c≤140737488355328],.tl e ty (rept l.toNat z),[]⟩ else some ⟨[0≤l,l≤c,((T.at_ e).bytes:Int)*c≤140737488355328],.row nid,[(nid,bif ty.noOl then .row e ty (List.replicate l.toNat z) else .orow e ty (List.replicate l.toNat z))]⟩
    | none=>none
    else none
   | none=>none
  | _,_,_=>none
 | .makeMap t r=>match mapTy T t,r.map ev with
  | some (ag,ty,_),none=>some ⟨[],.mp nid,[(nid,.map ag ty [])]⟩
  | some (ag,ty,_),some (.int _ _)=>some ⟨[],.mp nid,[(nid,.map ag ty [])]⟩
  | _,_=>none
 | .lookup t x i false=>match ev x with
  | .mp k=>semLookup T t (H k) (ev i)
  | _=>none
 | .mapUpdate t m i y=>match ev m with
  | .mp k=>semMapUpdate T t k (H k) (ev i) (ev y)
  | _=>none
 | .mapEntry t m i=>match ev m with
  | .mp k=>semMapEntry T t k (H k) (ev i)
  | _=>none
 | .entryStore t m st y=>match ev m with
  | .mp k=>semEntryStore T t k (H k) (ev st) (ev y)
  | _=>none
 | .range t x=>match ev x with
  | .mp k=>semRange T t k (H k) nid
  | _=>none
 | .entry x=>match ev x with
  | .itr k=>match H k with
   | .mit m n seen cur=>match H m with
    | .map ag ty es=>some ⟨[seen.getLast? = some cur,n=es.length,cur<es.length],.tuple (.cons (.int .i64 (es.getD cur (0,ty.zero)).1) (.cons (valA ag (enc ty (es.getD cur (0,ty.zero)).2)) .nl)),[]⟩
    | _=>none
   | _=>none
  | _=>none
 | .slice t x lo hi none=>bif env.eats.contains (o.dst.getD 0) then semCut T H nid (T.at_ t).d (ev x) (lo.map ev) (hi.map ev) else semSlice T H (T.at_ t).d (ev x) (lo.map ev) (hi.map ev)
 | .slice t x (some lo) (some hi) (some mx)=>semSlice3 T (T.at_ t).d (ev x) (ev lo) (ev hi) (ev mx)
 | .call c=>match c.callee with
  | .builtin b=>semBuiltin T H nid b c.argTypes.toList o.type (c.args.toList.map ev)
  | .value f=>semCall T env H nid c.argTypes.toList (ev f) (c.args.toList.map ev)
  | _=>none
 | _=>none
def Ob.shape:Ob→Nat×Ty×Nat
 | .row _ t xs=>(1,t,xs.length)
 | .orow _ t xs=>(2,t,xs.length)
 | .hrow _ t xs _ _=>(2,t,xs.length)
 | .prow _ cs=>(3,.unit,cs.length)
 | _=>(0,.unit,0)
def Ob.isDead:Ob→Bool
 | .dead=>true
 | _=>false
def softOf (ev:Operand→AV) (o:Oper):List Nat:=
 match o.op with
 | .indexAddr _ x _=>match ev x with
  | .row k=>[k]
  | _=>[]
 | _=>[]
def hardOf (n:Nat) (o:Oper) (upd:List (Nat×Ob)):List Nat:=
 match o.op with
 | .load _ _=>(upd.filter fun p=>n.ble p.1||p.2.isDead).map (·.1)
 | .store _ _ _=>(upd.filter fun p=>n.ble p.1||p.2.isDead).map (·.1)
 | _=>upd.map (·.1)
def readsOf (ev:Operand→AV) (H:Nat→Ob) (o:Oper):List Nat:=
 match o.op with
 | .load _ x=>(ev x).refs
 | .store _ x y=>match ev x with
  | .rptr k _ _=>k::(ev y).refs
  | v=>v.refs
 | .slice _ x _ _ _=>(ev x).refs
 | .convert _ _ x=>(ev x).refs
 | .binOp _ _ x _ _=>(ev x).refs
 | .lookup _ x _ _=>(ev x).refs
 | .mapUpdate _ x _ _=>(ev x).refs
 | .mapEntry _ x _=>(ev x).refs
 | .entryStore _ x _ _=>(ev x).refs
 | .range _ x=>(ev x).refs
 | .entry x=>match ev x with
  | .itr k=>k::(H k).refs
  | _=>[]
 | .indexAddr _ x _=>match ev x with
  | .ptr _ _=>[]
  | .rptr _ _ _=>[]
  | y=>y.refs
 | .call c=>match c.callee with
  | .builtin _=>c.args.toList.flatMap fun x=>(ev x).refs
  | .value f=>clo H 9 ((ev f).refs++c.args.toList.flatMap fun x=>(ev x).refs)
  | _=>[]
 | _=>[]
end Go.Proofs.YtkpjcmiijlpcaaaDoor.Aw
