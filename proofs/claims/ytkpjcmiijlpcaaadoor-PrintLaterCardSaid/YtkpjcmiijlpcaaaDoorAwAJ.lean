/- An abstract program logic over the model, twenty-second part: a table of types, made out o. -/
import Derived.Test.YtkpjcmiijlpcaaaDoorAwU
import Derived.Test.YtkpjcmiijlpcaaaDoorAwAA
import Derived.OpenShut
import Derived.ChangeArms
import Derived.WalkKit
import Derived.ProofKit
import Derived.ShutString
import Derived.ChangeOld
import Derived.Below
import Derived.Carry
import Derived.SizedLaws
import Derived.Laws.Strings
namespace Go.Proofs.YtkpjcmiijlpcaaaDoor.Aw
open Go
def tyOf (P:Program):Nat→TypeId→Option Ty
 | 0,_=>none
 | f+1,t=>match P.underlying t with
  | some (.int k)=>some (.int k)
  | some .bool=>some .bool
  | some .string=>some .str
  | some (.slice e)=>(tyOf P f e).map (.list e)
  | some (.array n e)=>(tyOf P f e).bind fun x=>(List.replicate n x).foldr (fun a b=>match b with
   | none=>some a
   | some b=>some (.pair a b)) none
  | some (.struct fs)=>bif fs.size==0 then some .unit else fs.toList.foldr (fun a b=>match tyOf P f a.type,b with
   | some a,some none=>some (some a)
   | some a,some (some b)=>some (some (.pair a b))
   | _,_=>none) (some none) |>.bind fun x=>x
  | _=>none
def zeroT (P:Program):Nat→TypeId→List AV
 | 0,_=>[.undef]
 | f+1,t=>match P.underlying t with
  | some (.int k)=>[.int k 0]
  | some .bool=>[.bool false]
  | some .string=>[.str ⟨#[]⟩]
  | some (.slice e)=>match tyOf P f e with
   | some x=>[.nils e x]
   | none=>[.nil0]
  | some (.array n e)=>(List.replicate n (zeroT P f e)).flatten
  | some (.struct fs)=>fs.toList.flatMap fun a=>zeroT P f a.type
  | some (.func _ _ _)=>[.nilf]
  | some (.pointer _)=>[.nilp]
  | some (.interface _)=>[.nili]
  | _=>[.undef]
def zeroOk:List AV→List Value→Bool
 | [],[]=>true
 | .int k n::l,.int k' n'::m=>k==k'&&n==n'&&zeroOk l m
 | .bool b::l,.bool b'::m=>b==b'&&zeroOk l m
 | .str s::l,.string s'::m=>decide (s=s')&&zeroOk l m
 | .nilp::l,.pointer none::m=>zeroOk l m
 | .nilf::l,.nilFunc::m=>zeroOk l m
 | .nili::l,.nilIface::m=>zeroOk l m
 | .nil0::l,.slice none 0 0::m=>zeroOk l m
 | .nils _ _::l,.slice none 0 0::m=>zeroOk l m
 | .undef::l,_::m=>zeroOk l m
 | _,_=>false
def eqOk (P:Program) (t:TypeId):Bool:=P.keyTypeAt 12 t && !P.eqGuardType P.depth t
theorem eqOk_spec {P:Program} {t:TypeId} (h:eqOk P t=true):P.keyTypeAt 12 t=true∧P.eqGuardType P.depth t=false:=by
 simpa [eqOk] using h
def tiOf (P:Program) (t:TypeId):TI:=match P.info? t with
 | none=>TI.unk
 | some f=>match f.zero with
  | none=>TI.unk
  | some z=>
   let zs:=zeroT P 20 t
   bif zeroOk zs z.cells.toList&&(zs.length==f.size) then
    match P.underlying t with
    | some (.slice e)=>⟨.slice e,f.size,f.bytes,zs,tyOf P 20 t,eqOk P t⟩
    | some (.struct fs)=>bif fs.toList.all fun a=>(P.info? a.type).isSome then ⟨.struct (fs.toList.map fun a=>(a.offset,a.type)),f.size,f.bytes,zs,tyOf P 20 t,eqOk P t⟩ else TI.unk
    | some (.array n e)=>bif (P.info? e).isSome then ⟨.array n e,f.size,f.bytes,zs,tyOf P 20 t,eqOk P t⟩ else TI.unk
    | some (.int k)=>⟨.scalar,f.size,f.bytes,zs,some (.int k),eqOk P t⟩
    | some .bool=>⟨.scalar,f.size,f.bytes,zs,some .bool,eqOk P t⟩
    | some .string=>⟨.scalar,f.size,f.bytes,zs,some .str,eqOk P t⟩
    | some (.map k e)=>match P.underlying k with
     | some (.int .i64)=>bif zeroShape P e then ⟨.map k e,f.size,f.bytes,zs,none,eqOk P t⟩ else TI.unk
     | _=>TI.unk
    | some (.func _ _ _)=>⟨.scalar,f.size,f.bytes,zs,none,eqOk P t⟩
    | some (.pointer _)=>⟨.scalar,f.size,f.bytes,zs,none,eqOk P t⟩
    | some (.interface _)=>⟨.scalar,f.size,f.bytes,zs,none,eqOk P t⟩
    | _=>TI.unk
   else TI.unk
def tabOf (P:Program) (ts:List TypeId):Tab:=ts.map fun t=>(t,tiOf P t)
theorem zeroOk_spec:∀(l:List AV) (m:List Value),zeroOk l m=true→∀S w β H,VLs S w β H l m:=by
 intro l m h S w β H
 fun_induction zeroOk l m<;>try simp only[Bool.and_eq_true,beq_iff_eq,decide_eq_true_eq] at h
 · exact rfl
 · rename_i ih;exact⟨_,_,rfl,⟨_,rfl,by rw[h.1.1,h.1.2];exact rfl⟩,ih h.2⟩
 · rename_i ih;exact⟨_,_,rfl,⟨_,rfl,by rw[h.1];exact rfl⟩,ih h.2⟩
 · rename_i ih;exact⟨_,_,rfl,⟨_,rfl,by rw[h.1];exact rfl⟩,ih h.2⟩
 · rename_i ih;exact⟨_,_,rfl,⟨_,rfl,rfl⟩,ih h⟩
 · rename_i ih;exact⟨_,_,rfl,⟨_,rfl,rfl⟩,ih h⟩
 · rename_i ih;exact⟨_,_,rfl,⟨_,rfl,rfl⟩,ih h⟩
 · rename_i ih;exact⟨_,_,rfl,⟨_,rfl,rfl⟩,ih h⟩
 · rename_i ih;exact⟨_,_,rfl,⟨_,rfl,rfl⟩,ih h⟩
 · rename_i ih;exact⟨_,_,rfl,⟨_,rfl,trivial⟩,ih h⟩
 · cases h
theorem tiOf_ok (P:Program) (t:TypeId) (hk:(tiOf P t).d≠.unk):TIok P t (tiOf P t):=by
 unfold tiOf at hk ⊢
 cases hf:P.info? t with
 | none=>simp only[hf] at hk;exact absurd rfl hk
 | some f=>
  simp only[hf] at hk ⊢
  cases hz:f.zero with
  | none=>simp only[hz] at hk;exact absurd rfl hk
  | some z=>
   simp only[hz] at hk ⊢
   cases hc:(zeroOk (zeroT P 20 t) z.cells.toList&&((zeroT P 20 t).length==f.size)) with
   | false=>simp only[hc,cond_false] at hk;exact absurd rfl hk
   | true=>
    simp only[hc,cond_true] at hk ⊢
    simp only[Bool.and_eq_true,beq_iff_eq] at hc
    have hzs:=zeroOk_spec _ _ hc.1
    cases hu:P.underlying t with
    | none=>simp only[hu] at hk;exact absurd rfl hk
    | some d=>
     simp only[hu] at hk ⊢
     cases d<;>simp only at hk ⊢ <;> try exact absurd rfl hk
     case slice e=>exact⟨⟨f,hf,rfl,rfl,z,hz,hzs⟩,hc.2,hu,eqOk_spec⟩
     case bool=>exact⟨⟨f,hf,rfl,rfl,z,hz,hzs⟩,hc.2,⟨_,hu,rfl,fun k h=>by simp at h,fun _=>rfl,fun h=>by simp at h,fun h=>by simp[zeroT,hu] at h⟩,eqOk_spec⟩
     case int k=>exact⟨⟨f,hf,rfl,rfl,z,hz,hzs⟩,hc.2,⟨_,hu,rfl,fun k h=>by simp at h;rw[h],fun h=>by simp at h,fun h=>by simp at h,fun h=>by simp[zeroT,hu] at h⟩,eqOk_spec⟩
     case string=>exact⟨⟨f,hf,rfl,rfl,z,hz,hzs⟩,hc.2,⟨_,hu,rfl,fun k h=>by simp at h,fun h=>by simp at h,fun _=>rfl,fun h=>by simp[zeroT,hu] at h⟩,eqOk_spec⟩
     case func=>exact⟨⟨f,hf,rfl,rfl,z,hz,hzs⟩,hc.2,⟨_,hu,rfl,fun k h=>by simp at h,fun h=>by simp at h,fun h=>by simp at h,fun h=>by simp[zeroT,hu] at h⟩,eqOk_spec⟩
     case pointer=>exact⟨⟨f,hf,rfl,rfl,z,hz,hzs⟩,hc.2,⟨_,hu,rfl,fun k h=>by simp at h,fun h=>by simp at h,fun h=>by simp at h,fun _=>⟨_,rfl⟩⟩,eqOk_spec⟩
     case interface=>exact⟨⟨f,hf,rfl,rfl,z,hz,hzs⟩,hc.2,⟨_,hu,rfl,fun k h=>by simp at h,fun h=>by simp at h,fun h=>by simp at h,fun h=>by simp[zeroT,hu] at h⟩,eqOk_spec⟩
     case map k e=>
      split at hk
      · rename_i hki
        cases hzs2:zeroShape P e with
        | false=>rw[hzs2] at hk;exact absurd rfl hk
        | true=>simp only[hki,hzs2,cond_true];exact⟨⟨f,hf,rfl,rfl,z,hz,hzs⟩,hc.2,⟨hu,hki,hzs2⟩,eqOk_spec⟩
      · exact absurd rfl hk
     case struct fs=>
      cases hall:fs.toList.all fun a=>(P.info? a.type).isSome with
      | false=>rw[hall] at hk;exact absurd rfl hk
      | true=>exact⟨⟨f,hf,rfl,rfl,z,hz,hzs⟩,hc.2,⟨fs,hu,rfl,fun g hg=>List.all_eq_true.1 hall g hg⟩,eqOk_spec⟩
     case array n e=>
      cases he:(P.info? e).isSome with
      | false=>rw[he] at hk;exact absurd rfl hk
      | true=>exact⟨⟨f,hf,rfl,rfl,z,hz,hzs⟩,hc.2,⟨hu,he⟩,eqOk_spec⟩
theorem lookup_tab (P:Program) (t:TypeId):∀ts:List TypeId,(tabOf P ts).lookup t=none∨(tabOf P ts).lookup t=some (tiOf P t)
 | []=>.inl rfl
 | x::ts=>by
  simp only[tabOf,List.map_cons,List.lookup]
  cases e:t==x with
  | true=>have e:t=x:=by simpa using e
          subst e;exact .inr rfl
  | false=>exact lookup_tab P t ts
theorem tabOf_ok (P:Program) (ts:List TypeId):TabOk P (tabOf P ts):=by
 intro t hk
 unfold Tab.at_ at hk ⊢
 rcases lookup_tab P t ts with h | h
 · rw[h] at hk;exact absurd rfl hk
 · rw[h] at hk ⊢;exact tiOf_ok P t hk
end Go.Proofs.YtkpjcmiijlpcaaaDoor.Aw
namespace Go.Proofs.YtkpjcmiijlpcaaaDoor.Aw
open Go
abbrev Cons:=List (FuncId×(List AV→Option Tells))
abbrev Cons2:=List (FuncId×(List AV→List Ob→Option Tells2))
def oneOf_:Cons→FuncId→List AV→Option Tells
 | [],_,_=>none
 | (g,f)::l,g',args=>bif Nat.beq g g' then (match f args with
  | some t=>some t
  | none=>oneOf_ l g' args) else oneOf_ l g' args
def twoOf_:Cons2→FuncId→List AV→List Ob→Option Tells2
 | [],_,_,_=>none
 | (g,f)::l,g',args,obs=>bif Nat.beq g g' then (match f args obs with
  | some t=>some t
  | none=>twoOf_ l g' args obs) else twoOf_ l g' args obs
abbrev Cons3:=List (FuncId×(List AV→List Ob→Option TellsP))
abbrev Cons4:=List (FuncId×(List AV→List AV→List Ob→Option TellsI))
def panOf_:Cons3→FuncId→Option (List AV→List Ob→Option TellsP)
 | [],_=>none
 | (g,f)::l,g'=>bif Nat.beq g g' then some f else panOf_ l g'
def iterOf_:Cons4→FuncId→List AV→List AV→List Ob→Option TellsI
 | [],_,_,_,_=>none
 | (g,f)::l,g',args,caps,obs=>bif Nat.beq g g' then (match f args caps obs with
  | some t=>some t
  | none=>iterOf_ l g' args caps obs) else iterOf_ l g' args caps obs
def envOf4 (l:Cons) (m:Cons2) (p:Cons3) (i:Cons4):Env:=⟨oneOf_ l,twoOf_ m,panOf_ p,iterOf_ i,false,0,0,fun _=>[],[],[],[]⟩
def ConOk (P:Program) (c:FuncId×(List AV→Option Tells)):Prop:=∀args t,c.2 args=some t→(∀p∈t.pre,p)→ACalls P c.1 args t.v t.news
def ConOk2 (P:Program) (c:FuncId×(List AV→List Ob→Option Tells2)):Prop:=∀args obs t,c.2 args obs=some t→(∀p∈t.pre,p)→ACalls2 P c.1 args obs t.v (finObs obs t.olds t.news)
def ConOk3 (P:Program) (c:FuncId×(List AV→List Ob→Option TellsP)):Prop:=∀args obs t,c.2 args obs=some t→(∀p∈t.pre,p)→(t.b=false→ACalls2 P c.1 args obs t.v (finObs obs t.olds t.news))∧(t.b=true→ACalls2 P c.1 args obs .undef (finObs obs t.olds t.news) (some t.x))
def ConOk4 (P:Program) (c:FuncId×(List AV→List AV→List Ob→Option TellsI)):Prop:=∀args caps obs t,c.2 args caps obs=some t→(∀p∈t.pre,p)→AIter P c.1 args caps obs t.cnt t.arg
theorem panOf_ok {P:Program}:∀l:Cons3,(∀c∈l,ConOk3 P c)→∀g f args obs t,panOf_ l g=some f→f args obs=some t→(∀p∈t.pre,p)→(t.b=false→ACalls2 P g args obs t.v (finObs obs t.olds t.news))∧(t.b=true→ACalls2 P g args obs .undef (finObs obs t.olds t.news) (some t.x))
 | [],_=>fun g f args obs t h _ _=>by cases h
 | (g,f)::l,hl=>fun g' f' args obs t h ht hp=>by
  simp only[panOf_] at h
  cases e:Nat.beq g g' with
  | true=>
   rw[e] at h
   have e':g=g':=Nat.eq_of_beq_eq_true e
   subst e'
   cases h
   exact hl (g,f) (by simp) args obs t ht hp
  | false=>
   rw[e] at h
   exact panOf_ok l (fun c hc=>hl c (by simp[hc])) g' f' args obs t h ht hp
theorem iterOf_ok {P:Program}:∀l:Cons4,(∀c∈l,ConOk4 P c)→∀g args caps obs t,iterOf_ l g args caps obs=some t→(∀p∈t.pre,p)→AIter P g args caps obs t.cnt t.arg
 | [],_=>fun g args caps obs t h _=>by cases h
 | (g,f)::l,hl=>fun g' args caps obs t h hp=>by
  simp only[iterOf_] at h
  cases e:Nat.beq g g' with
  | true=>
   rw[e] at h
   have e':g=g':=Nat.eq_of_beq_eq_true e
   subst e'
   simp only[cond_true] at h
   split at h
   · rename_i t' ht
     cases h
     exact hl (g,f) (by simp) args caps obs t ht hp
   · exact iterOf_ok l (fun c hc=>hl c (by simp[hc])) g args caps obs t h hp
  | false=>
   rw[e] at h
   exact iterOf_ok l (fun c hc=>hl c (by simp[hc])) g' args caps obs t h hp
theorem oneOf_ok {P:Program}:∀l:Cons,(∀c∈l,ConOk P c)→∀g args t,oneOf_ l g args=some t→(∀p∈t.pre,p)→ACalls P g args t.v t.news
 | [],_=>fun g args t h _=>by cases h
 | (g,f)::l,hl=>fun g' args t h hp=>by
  simp only[oneOf_] at h
  cases e:Nat.beq g g' with
  | true=>
   rw[e] at h
   have e':g=g':=Nat.eq_of_beq_eq_true e
   subst e'
   simp only[cond_true] at h
   split at h
   · rename_i t' ht
     cases h
     exact hl (g,f) (by simp) args t ht hp
   · exact oneOf_ok l (fun c hc=>hl c (by simp[hc])) g args t h hp
  | false=>
   rw[e] at h
   exact oneOf_ok l (fun c hc=>hl c (by simp[hc])) g' args t h hp
theorem twoOf_ok {P:Program}:∀l:Cons2,(∀c∈l,ConOk2 P c)→∀g args obs t,twoOf_ l g args obs=some t→(∀p∈t.pre,p)→ACalls2 P g args obs t.v (finObs obs t.olds t.news)
 | [],_=>fun g args obs t h _=>by cases h
 | (g,f)::l,hl=>fun g' args obs t h hp=>by
  simp only[twoOf_] at h
  cases e:Nat.beq g g' with
  | true=>
   rw[e] at h
   have e':g=g':=Nat.eq_of_beq_eq_true e
   subst e'
   simp only[cond_true] at h
   split at h
   · rename_i t' ht
     cases h
     exact hl (g,f) (by simp) args obs t ht hp
   · exact twoOf_ok l (fun c hc=>hl c (by simp[hc])) g args obs t h hp
  | false=>
   rw[e] at h
   exact twoOf_ok l (fun c hc=>hl c (by simp[hc])) g' args obs t h hp
theorem envOf4_ok {P:Program} (l:Cons) (m:Cons2) (p:Cons3) (i:Cons4) (hl:∀c∈l,ConOk P c) (hm:∀c∈m,ConOk2 P c) (hp:∀c∈p,ConOk3 P c) (hi:∀c∈i,ConOk4 P c):EnvOk P (envOf4 l m p i):=⟨oneOf_ok l hl,twoOf_ok m hm,panOf_ok p hp,iterOf_ok i hi⟩
theorem all_nil {α:Type} {p:α→Prop}:∀c∈([]:List α),p c:=by simp
theorem all_cons {α:Type} {p:α→Prop} {c:α} {l:List α} (hc:p c) (hl:∀c∈l,p c):∀d∈c::l,p d:=by
 intro d hd
 rcases List.mem_cons.1 hd with rfl | hd
 · exact hc
 · exact hl d hd
theorem all_append {α:Type} {p:α→Prop} {l m:List α} (hl:∀c∈l,p c) (hm:∀c∈m,p c):∀d∈l++m,p d:=by
 intro d hd
 rcases List.mem_append.1 hd with hd | hd
 · exact hl d hd
 · exact hm d hd
theorem loop_intro {live:List Nat} {body:St→(Ex→St→Prop)→Prop} {s:St} {Q:Ex→St→Prop} (I:Nat→St→Prop) (n:Nat) (h0:I n s)
 (h:∀n s,I n s→body s (thenA (fun s'=>(fun t=>∃m,m<n∧I m t) (s'.tidy live)) Q)):loopT live body s Q:=⟨I,n,h0,h⟩
theorem fn_ok {P:Program} {T:Tab} {env:Env} (he:EnvOk P env) (hT:TabOk P T) (hm:P.follows .mixedOrders=true) {g:FuncId} {fn:Func} (hf:P.funcs[g]? = some fn) (hname:(fn.name == "runtime.NumGoroutine")=false) (hb:fn.body.isSome=true) {args:List AV} {v:AV} {news:List Ob}
 (h:fnA T env fn (bodyOf fn) args fun v' news'=>v'=v∧news'=news) (hy:env.ycnt=0∧env.isIt=false:=by exact⟨rfl,rfl⟩):ACalls P g args v news:=by
 obtain⟨c,hc⟩:=Option.isSome_iff_exists.1 hb
 have e:bodyOf fn=c:=by unfold bodyOf;rw[hc];rfl
 rw[e] at h
 exact fn_calls he hy hT hm hf hname hc h
inductive Fits (H:Nat→Ob):AV→AV→Prop
 | refl (a:AV):Fits H a a
 | row (k:Nat) (e:TypeId) (t:Ty) (h:H k=.row e t []):Fits H (.row k) (.nils e t)
 | row0 (k:Nat) (e:TypeId) (t:Ty) (h:H k=.row e t []):Fits H (.row k) .nil0
 | agg (c c':AV) (h:Fits H c c'):Fits H (.agg c) (.agg c')
 | tuple (c c':AV) (h:Fits H c c'):Fits H (.tuple c) (.tuple c')
 | cons (a a' b b':AV) (h1:Fits H a a') (h2:Fits H b b'):Fits H (.cons a b) (.cons a' b')
def GivesN (v:AV) (news:List Ob) (v':AV) (news':List Ob):Prop:=∃ext:List Ob,news=news'++ext∧(∀o∈ext,∃e t,o=.row e t [])∧Fits (fun k=>if k<news'.length then .none else newsH news k) v v'
theorem GivesN.refl (v:AV) (news:List Ob):GivesN v news v news:=⟨[],by simp,by simp,.refl _⟩
theorem Fits.of {S:Nat→Prop} {w:World} {β:Nat→Cr} {H H0:Nat→Ob} (h0:∀k e t,H0 k=.row e t []→H k=.row e t []∧(β k).g=none) {v v':AV} (hf:Fits H0 v v'):∀vs,VL S w β H v' vs→VL S w β H v vs:=by
 induction hf with
 | refl a=>exact fun _ h=>h
 | row k e t h=>
  rintro vs ⟨u,e1,hl⟩
  obtain⟨q1,q2⟩:=h0 k e t h
  refine⟨u,e1,?_⟩
  simp only[leaf,q1,rowV,q2]
  exact hl
 | row0 k e t h=>
  rintro vs ⟨u,e1,hl⟩
  obtain⟨q1,q2⟩:=h0 k e t h
  refine⟨u,e1,?_⟩
  simp only[leaf,q1,rowV,q2]
  exact hl
 | agg c c' _ ih=>exact fun _ ⟨cs,e,h⟩=>⟨cs,e,ih _ h⟩
 | tuple c c' _ ih=>exact fun _ ⟨cs,e,h⟩=>⟨cs,e,ih _ h⟩
 | cons a a' b b' _ _ ih1 ih2=>exact fun _ ⟨v,r,e,h1,h2⟩=>⟨v,r,e,ih1 _ h1,ih2 _ h2⟩
theorem fn_ok2 {P:Program} {T:Tab} {env:Env} (he:EnvOk P env) (hT:TabOk P T) (hm:P.follows .mixedOrders=true) {g:FuncId} {fn:Func} (hf:P.funcs[g]? = some fn) (hname:(fn.name == "runtime.NumGoroutine")=false) (hb:fn.body.isSome=true) {args:List AV} {obs:List Ob} {v:AV} {obs':List Ob}
 (h:fnB T env fn (bodyOf fn) args obs fun v' o'=>v'=v∧o'=obs') (hy:env.ycnt=0∧env.isIt=false:=by exact⟨rfl,rfl⟩):ACalls2 P g args obs v obs':=by
 obtain⟨c,hc⟩:=Option.isSome_iff_exists.1 hb
 have e:bodyOf fn=c:=by unfold bodyOf;rw[hc];rfl
 rw[e] at h
 exact fn_calls2B he hy hT hm hf hname hc h
end Go.Proofs.YtkpjcmiijlpcaaaDoor.Aw
namespace Go.Proofs.YtkpjcmiijlpcaaaDoor.Aw
open Go
def fr:Ty→Ty
 | .int k=>.int k
 | .bool=>.bool
 | .str=>.str
 | .list e t=>.list e t
 | .pair a b=>.pair (fr a) (fr b)
 | .unit=>.unit
 | .ol e t=>.list e t
def frx:(t:Ty)→t.den→(fr t).den
 | .int _,x=>x
 | .bool,x=>x
 | .str,x=>x
 | .list _ _,x=>x
 | .pair a b,x=>(frx a x.1,frx b x.2)
 | .unit,x=>x
 | .ol _ _,x=>x
inductive Frz (H:Nat→Ob):AV→AV→Prop
 | keep (a:AV) (h:a.rowRefs=[]) (hp:a.lend H=a):Frz H a a
 | nils (e:TypeId) (t:Ty):Frz H (.nils e t) (.list e t [])
 | nil0 (e:TypeId) (t:Ty):Frz H .nil0 (.list e t [])
 | row (k:Nat) (e:TypeId) (t:Ty) (xs:List t.den) (h:H k=.row e t xs):Frz H (.row k) (.list e t xs)
 | orow (k:Nat) (e:TypeId) (t:Ty) (xs:List t.den) (ys:List (fr t).den) (h:H k=.orow e t xs) (hy:xs.map (frx t)=ys):Frz H (.row k) (.list e (fr t) ys)
 | ptr (k off:Nat) (e e':TypeId) (cs cs':List AV) (t:Ty) (x:t.den) (h:H k=.cells e cs) (hc:Frz H (AV.ofList cs) (AV.ofList cs')) (hd:dec1 t cs'=some x):Frz H (.ptr k off) (.lptr e' t [x] 0 off)
 | agg (c c':AV) (h:Frz H c c'):Frz H (.agg c) (.agg c')
 | tuple (c c':AV) (h:Frz H c c'):Frz H (.tuple c) (.tuple c')
 | iface (t:TypeId) (c c':AV) (h:Frz H c c'):Frz H (.iface t c) (.iface t c')
 | fn (f:Fn) (a a' b b':AV) (h1:Frz H a a') (h2:Frz H b b'):Frz H (.fn f a b) (.fn f a' b')
 | nl:Frz H .nl .nl
 | cons (a a' b b':AV) (h1:Frz H a a') (h2:Frz H b b'):Frz H (.cons a b) (.cons a' b')
section
variable {S S1:Nat→Prop} {w:World} {β:Nat→Cr} {H:Nat→Ob} {M S0:Nat→Prop} {w0:World}
theorem VL_toVLs {S:Nat→Prop} {w:World} {β:Nat→Cr} {H:Nat→Ob}:∀(l:List AV) (vs:List Value),VL S w β H (AV.ofList l) vs→VLs S w β H l vs
 | [],_,h=>h
 | _::l,_,⟨v,r,e,h1,h2⟩=>⟨v,r,e,h1,VL_toVLs l r h2⟩
theorem DRo.frozen (h:∀b,S b→S1 b):∀(t:Ty) (x:t.den) (cs:List Value) (F:List Nat),(∀b∈F,S1 b)→DRo S w t x cs F→DR S1 w (fr t) (frx t x) cs
 | .ol e t,xs,cs,F,hF,hd=>by
  rcases hd with ⟨rfl,e2,rfl⟩ | ⟨g,cap,cur,e1,e2,e3,e4,e5,e6,e7⟩
  · cases e2
    exact⟨none,0,0,[],rfl,rfl,Nat.le_refl _,rfl,fun j u hj=>by simp at hj,fun _=>rfl⟩
  · refine⟨some ⟨g,0,none⟩,xs.length,cap,_,e1,rfl,e4,Cat.dr_mono (fun b hb=>⟨h b hb,rfl⟩) e7,fun j u hj=>⟨_,rfl,?_,?_⟩,fun h=>by cases h⟩
    · exact hF g (by rw[e2];simp)
    · rw[add_lit,cell_of_row w g _ _ _ _ e3]
      rw[List.getElem?_take] at hj
      split at hj
      · simpa using hj
      · cases hj
 | .pair a b,x,cs,F,hF,⟨c1,c2,F1,F2,e1,e2,h1,h2⟩=>⟨c1,c2,e1,DRo.frozen h a x.1 c1 F1 (fun b hb=>hF b (by rw[e2];simp[hb])) h1,DRo.frozen h b x.2 c2 F2 (fun b hb=>hF b (by rw[e2];simp[hb])) h2⟩
 | .int k,x,cs,F,_,hd=>DR.mono (fun b hb=>⟨h b hb,rfl⟩) (.int k) x cs hd.1
 | .bool,x,cs,F,_,hd=>DR.mono (fun b hb=>⟨h b hb,rfl⟩) .bool x cs hd.1
 | .str,x,cs,F,_,hd=>DR.mono (fun b hb=>⟨h b hb,rfl⟩) .str x cs hd.1
 | .list e t,x,cs,F,_,hd=>DR.mono (fun b hb=>⟨h b hb,rfl⟩) (.list e t) x cs hd.1
 | .unit,x,cs,F,_,hd=>DR.mono (fun b hb=>⟨h b hb,rfl⟩) .unit x cs hd.1
theorem CatO.frozen (h:∀b,S b→S1 b) {t:Ty}:∀(xs:List t.den) (cs:List Value) (F:List Nat),(∀b∈F,S1 b)→CatO S w t xs cs F→Cat (DR S1 w (fr t)) (xs.map (frx t)) cs
 | [],_,_,_,h1=>h1.1
 | x::xs,cs,F,hF,⟨c1,c2,F1,F2,e1,e2,h1,h2⟩=>⟨c1,c2,e1,h1.frozen h t x c1 F1 (fun b hb=>hF b (by rw[e2];simp[hb])),h2.frozen h xs c2 F2 (fun b hb=>hF b (by rw[e2];simp[hb]))⟩
theorem Frz.of (hr:Rel M S0 w0 S β H w) (h:∀b,S b→S1 b) (hl:∀k g,(H k).live=true→(β k).has g→S1 g) {a a':AV} (hf:Frz H a a'):∀vs,VL S w β H a vs→VL S1 w cr0 ob0 a' vs:=by
 induction hf with
 | keep a h1 hp=>
  intro vs hv
  have:=lend_of hr h a vs (fun k hk=>by rw[h1] at hk;cases hk) hv
  rwa [hp] at this
 | nils e t=>rintro vs ⟨v,e1,hv⟩;exact⟨v,e1,nils_list hv⟩
 | nil0 e t=>rintro vs ⟨v,e1,hv⟩;exact⟨v,e1,nils_list (e:=e) (t:=t) (w:=w) (S:=S) (β:=β) (H:=H) hv⟩
 | row k e t xs hk=>rintro vs ⟨v,e1,hv⟩;exact⟨v,e1,row_list hr h hk (fun g hg=>hl k g (by rw[hk];rfl) (.inl hg)) hv⟩
 | orow k e t xs ys hk hy=>
  rintro vs ⟨v,e1,hv⟩
  subst hy
  refine⟨v,e1,?_⟩
  simp only[leaf,hk] at hv
  have hob:=hr.ob k
  have hS:=hl k
  rw[hk] at hob hS
  rcases hob with ⟨e2,e3,_⟩ | ⟨g,cur,e2,e3,e4,e5,e6,e7,_⟩
  · subst e3
    refine⟨none,0,0,[],?_,rfl,Nat.le_refl _,rfl,fun j u hj=>by simp at hj,fun _=>rfl⟩
    rw[hv];unfold rowV;rw[e2]
  · refine⟨some ⟨g,0,none⟩,xs.length,(β k).cap,_,by rw[hv,rowV_some e2],by rw[List.length_map],e4,e7.frozen h xs _ _ (fun b hb=>hS b rfl (.inr hb)),fun j u hj=>⟨_,rfl,?_,?_⟩,fun h=>by cases h⟩
    · exact hS g rfl (.inl e2)
    · rw[add_lit,cell_of_row w g _ _ _ _ e3]
      rw[List.getElem?_take] at hj
      split at hj
      · simpa using hj
      · cases hj
 | ptr k off e e' cs cs' t x hk hc hd ih=>
  rintro vs ⟨v,e1,hv⟩
  refine⟨v,e1,Int.le_refl _,by simp,?_⟩
  simp only[leaf,hk] at hv
  obtain⟨g,e2,e3⟩:=hv
  have hob:=hr.ob k
  have hS:=hl k
  rw[hk] at hob hS
  obtain⟨g',us,e4,e5,e6⟩:=hob
  have eg:g'=g:=by rw[e4] at e2;exact Option.some.inj e2
  subst eg
  have hd1:=dec1_of (VL_toVLs _ _ (ih us (VLs.of_list _ _ e6))) hd
  refine⟨⟨g',0,none⟩,us,⟨us,[],by simp,hd1,rfl⟩,fun j u hj=>⟨_,rfl,hS g' rfl (.inl e2),?_⟩,?_⟩
  · rw[add_lit,cell_of_row w g' _ _ _ _ e5]
    simpa using hj
  · rw[e3]
    simp[add_lit]
 | agg c c' _ ih=>exact fun _ ⟨cs,e,h⟩=>⟨cs,e,ih _ h⟩
 | tuple c c' _ ih=>exact fun _ ⟨cs,e,h⟩=>⟨cs,e,ih _ h⟩
 | iface t c c' _ ih=>exact fun _ ⟨v,e,h⟩=>⟨v,e,ih _ h⟩
 | fn f a a' b b' _ _ ih1 ih2=>exact fun _ ⟨x,y,e,h1,h2⟩=>⟨x,y,e,ih1 _ h1,ih2 _ h2⟩
 | nl=>exact fun _ h=>h
 | cons a a' b b' _ _ ih1 ih2=>exact fun _ ⟨v,r,e,h1,h2⟩=>⟨v,r,e,ih1 _ h1,ih2 _ h2⟩
theorem Rel.frozen (hr:Rel (fun _=>False) S0 w0 S β H w):Rel (fun _=>False) S0 w0 (fun b=>S b∨ownB β H b) cr0 ob0 w:=
 ⟨hr.fr,fun b hb=>.inl (hr.s0 b hb),fun b hb=>by
  rcases hb with hb | ⟨k,h1,h2⟩
  · exact hr.sS b hb
  · obtain⟨q1,q2,q3⟩:=hr.own k b h1 h2
    exact⟨q2,.inr (q1.resolve_left id)⟩,fun k g hk=>(by cases hk),fun k k' g hk=>(by cases hk),fun k=>trivial,hr.gl.mono fun b hb=>⟨.inl hb,rfl⟩⟩
end
theorem fn_okF {P:Program} {T:Tab} {env:Env} (he:EnvOk P env) (hT:TabOk P T) (hm:P.follows .mixedOrders=true) {g:FuncId} {fn:Func} (hf:P.funcs[g]? = some fn) (hname:(fn.name == "runtime.NumGoroutine")=false) (hb:fn.body.isSome=true) {args:List AV} {v:AV}
 (h:fnA T env fn (bodyOf fn) args fun v' news'=>Frz (newsH news') v' v) (hy:env.ycnt=0∧env.isIt=false:=by exact⟨rfl,rfl⟩):ACalls P g args v []:=by
 obtain⟨c,hc⟩:=Option.isSome_iff_exists.1 hb
 have e:bodyOf fn=c:=by unfold bodyOf;rw[hc];rfl
 rw[e] at h
 refine⟨⟨fn,hf,hname,by rw[hc];rfl⟩,fun S w vs hS hG hvs=>Calls.mono (fn_callsR he hy hT hm hf hc h S w vs hS hG hvs) ?_⟩
 rintro e w' ⟨v',news',u,hz,rfl,S',β',hr,hv⟩
 exact⟨u,rfl,_,cr0,hr.frozen,hz.of hr (fun b hb=>.inl hb) (fun k g h1 h2=>.inr ⟨k,h1,h2⟩) _ hv⟩
end Go.Proofs.YtkpjcmiijlpcaaaDoor.Aw
namespace Go.Proofs.YtkpjcmiijlpcaaaDoor.Aw
open Go
end Go.Proofs.YtkpjcmiijlpcaaaDoor.Aw
namespace Go.Proofs.YtkpjcmiijlpcaaaDoor.Aw
open Go
theorem cond_no {c:Bool} {X Y:Prop} (h:c=false) (hy:Y):bif c then X else Y:=by rw[h];exact hy
theorem cond_split {c:Bool} {X Y:Prop} (hx:c=true→X) (hy:c=false→Y):bif c then X else Y:=by
 cases c with
 | true=>exact hx rfl
 | false=>exact hy rfl
theorem dec_yes {p:Prop} [Decidable p] {X Y:Prop} (h:p) (hx:X):bif decide p then X else Y:=by rw[decide_eq_true h];exact hx
theorem dec_no {p:Prop} [Decidable p] {X Y:Prop} (h:¬p) (hy:Y):bif decide p then X else Y:=by rw[decide_eq_false h];exact hy
theorem dec_split {p:Prop} [Decidable p] {X Y:Prop} (hx:p→X) (hy:¬p→Y):bif decide p then X else Y:=by
 by_cases h:p
 · exact dec_yes h (hx h)
 · exact dec_no h (hy h)
theorem ndec_split {p:Prop} [Decidable p] {X Y:Prop} (hx:¬p→X) (hy:p→Y):bif !decide p then X else Y:=by
 by_cases h:p
 · rw[decide_eq_true h];exact hy h
 · rw[decide_eq_false h];exact hx h
theorem wrap_id (x:Int) (h : -9223372036854775808≤x∧x≤9223372036854775807):IntKind.wrap .i64 x=x:=by
 simp[IntKind.wrap,IntKind.signed,IntKind.bits]
 omega
theorem wrap_next (i:Nat) (n:Nat) (h:i<n) (hn:n≤maxLen):IntKind.wrap .i64 ((i:Int)+1)=((i+1:Nat):Int):=by
 simp only[maxLen] at hn
 rw[wrap_id _ (by omega)]
 omega
theorem getD_nat {α:Type} (xs:List α) (d:α) (i:Nat) (h:i<xs.length):xs.getD ((i:Int).toNat) d=xs[i]:=by
 simp[List.getD,h]
theorem getD_nat' {α:Type} (xs:List α) (d:α) (i:Nat) (h:i<xs.length):xs.getD i d=xs[i]:=by
 simp[List.getD,h]
theorem take_next {α:Type} (xs:List α) (i:Nat) (h:i<xs.length):xs.take (i+1)=xs.take i++[xs[i]]:=List.take_succ_eq_append_getElem h
theorem take_all {α:Type} (xs:List α) (i:Nat) (h:¬i<xs.length):xs.take i=xs:=List.take_of_length_le (by omega)
theorem u8_of (n:Int) (h:(Lit.int .u8 n).wf=true):0≤n∧n≤255:=by
 simp[Lit.wf,IntKind.min,IntKind.max,IntKind.signed,IntKind.bits] at h
 omega
end Go.Proofs.YtkpjcmiijlpcaaaDoor.Aw
namespace Go.Proofs.YtkpjcmiijlpcaaaDoor.Aw
open Go
def fieldsOk (ok:TypeId→Ty→Bool) (P:Program):List Field→Nat→Ty→Bool
 | [f],off,ty=>f.offset==off&&ok f.type ty&&P.cellsOf f.type==ty.size
 | f::l,off,.pair a b=>f.offset==off&&ok f.type a&&P.cellsOf f.type==a.size&&fieldsOk ok P l (off+a.size) b
 | _,_,_=>false
def elemsOk (ok:TypeId→Ty→Bool) (P:Program) (e:TypeId):Nat→Ty→Bool
 | 1,ty=>ok e ty&&P.cellsOf e==ty.size
 | n+2,.pair a b=>ok e a&&P.cellsOf e==a.size&&elemsOk ok P e (n+1) b
 | _,_=>false
def shapeOk (P:Program):Nat→TypeId→Ty→Bool
 | 0,_,_=>false
 | n+1,t,ty=>match P.underlying t with
  | some (.int k)=>match ty with
   | .int k'=>k==k'
   | _=>false
  | some .bool=>match ty with
   | .bool=>true
   | _=>false
  | some .string=>match ty with
   | .str=>true
   | _=>false
  | some (.slice e)=>match ty with
   | .list _ x=>shapeOk P n e x&&P.cellsOf e==x.size
   | _=>false
  | some (.struct fs)=>fieldsOk (shapeOk P n) P fs.toList 0 ty&&P.cellsOf t==ty.size
  | some (.array m e)=>elemsOk (shapeOk P n) P e m ty&&P.cellsOf t==ty.size
  | _=>false
def OkD:(t:Ty)→t.den→Prop
 | .int k,x=>(Lit.int k x).wf=true
 | .bool,_=>True
 | .str,s=>s.size≤maxLen
 | .list _ t,xs=>xs.length≤maxLen∧∀x∈xs,OkD t x
 | .pair a b,x=>OkD a x.1∧OkD b x.2
 | .unit,_=>True
 | .ol _ _,_=>True
section
variable {H:Type} {enc:TypeId×Value→H} {P:Program} {w:World} {base:Nat} {spare:Nat→Bool} {held:Bool}
abbrev allOf (w:World):Nat→Prop:=fun b=>b<w.heap.size
theorem cells_get {a:Addr} {n:Nat} {cs:List Value} (h:w.cells? base a n=some cs):cs.length=n∧∀j u,cs[j]? = some u→w.cell? (a.add j)=some u:=by
 unfold World.cells? at h
 split at h
 · have hl:cs.length=n:=by simpa using mapM_some_length h
   refine⟨hl,fun j u hj => ?_⟩
   have hlt:j<n:=by rw[←hl];exact (List.getElem?_eq_some_iff.1 hj).1
   have:=mapM_some_get h j j (by simp[hlt])
   rw[this,hj]
 · cases h
theorem fields_dr {m:Nat} {cs:List Value} {ok:TypeId→Ty→Bool} (ih:∀t ty,ok t ty=true→∀cs x,DataW.trod enc P w base spare held m t cs=some x→∃v:ty.den,DR (allOf w) w ty v cs∧OkD ty v) :
 ∀(l:List Field) (off:Nat) (ty:Ty) (xs:List (DataW H×List MemPlace)),fieldsOk ok P l off ty=true→xs.length=l.length →
  (∀(i:Nat) (f:Field),l[i]? = some f→DataW.trod enc P w base spare held m f.type ((cs.drop f.offset).take (P.cellsOf f.type))=xs[i]?)→∃v:ty.den,DR (allOf w) w ty v ((cs.drop off).take ty.size)∧OkD ty v
 | [],_,_,_,h,_,_=>by simp[fieldsOk] at h
 | [f],off,ty,xs,h,hl,hx=>by
  simp only[fieldsOk,Bool.and_eq_true,beq_iff_eq] at h
  obtain⟨⟨h1,h2⟩,h3⟩:=h
  have h0:=hx 0 f rfl
  match xs,hl with
  | [x],_=>
   rw[h1,h3] at h0
   exact ih f.type ty h2 _ x h0
 | f::g::l,off,ty,xs,h,hl,hx=>by
  cases ty with
  | pair a b=>
   simp only[fieldsOk,Bool.and_eq_true,beq_iff_eq] at h
   obtain⟨⟨⟨h1,h2⟩,h3⟩,h4⟩:=h
   match xs,hl with
   | x::xs,hl=>
    have h0:=hx 0 f rfl
    rw[h1,h3] at h0
    obtain⟨v,g1,g2⟩:=ih f.type a h2 _ x h0
    obtain⟨u,k1,k2⟩:=fields_dr ih (g::l) (off+a.size) b xs h4 (by simpa using hl) (fun i f' hi=>by have:=hx (i+1) f' (by simpa using hi);simpa using this)
    refine⟨(v,u),⟨_,_,?_,g1,k1⟩,g2,k2⟩
    show (cs.drop off).take (a.size+b.size)=_
    rw[List.take_add,List.drop_drop]
  | _=>simp[fieldsOk] at h
theorem elems_dr {m:Nat} {e:TypeId} {cs:List Value} {ok:TypeId→Ty→Bool} (ih:∀t ty,ok t ty=true→∀cs x,DataW.trod enc P w base spare held m t cs=some x→∃v:ty.den,DR (allOf w) w ty v cs∧OkD ty v) :
 ∀(n:Nat) (k:Nat) (ty:Ty),elemsOk ok P e n ty=true→(∀i,i<n→∃x,DataW.trod enc P w base spare held m e ((cs.drop ((k+i)*P.cellsOf e)).take (P.cellsOf e))=some x)→∃v:ty.den,DR (allOf w) w ty v ((cs.drop (k*P.cellsOf e)).take ty.size)∧OkD ty v
 | 0,_,_,h,_=>by simp[elemsOk] at h
 | 1,k,ty,h,hx=>by
  simp only[elemsOk,Bool.and_eq_true,beq_iff_eq] at h
  obtain⟨x,h0⟩:=hx 0 (by omega)
  rw[Nat.add_zero] at h0
  rw[←h.2]
  exact ih e ty h.1 _ x h0
 | n+2,k,ty,h,hx=>by
  cases ty with
  | pair a b=>
   simp only[elemsOk,Bool.and_eq_true,beq_iff_eq] at h
   obtain⟨⟨h2,h3⟩,h4⟩:=h
   obtain⟨x,h0⟩:=hx 0 (by omega)
   rw[Nat.add_zero] at h0
   obtain⟨v,g1,g2⟩:=ih e a h2 _ x h0
   obtain⟨u,k1,k2⟩:=elems_dr ih (n+1) (k+1) b h4 (fun i hi=>by have:=hx (i+1) (by omega);rwa [show k+(i+1)=k+1+i by omega] at this)
   refine⟨(v,u),⟨_,_,?_,g1,k1⟩,g2,k2⟩
   show (cs.drop (k*P.cellsOf e)).take (a.size+b.size)=_
   rw[List.take_add,List.drop_drop,h3,show k*a.size+a.size=(k+1)*a.size by rw[Nat.add_mul];omega]
  | _=>simp[elemsOk] at h
theorem trod_dr:∀(n:Nat) (t:TypeId) (ty:Ty),shapeOk P n t ty=true→∀(fuel:Nat) (cs:List Value) (x:DataW H×List MemPlace),DataW.trod enc P w base spare held fuel t cs=some x→∃v:ty.den,DR (allOf w) w ty v cs∧OkD ty v
 | 0,_,_,h,_,_,_,_=>by simp[shapeOk] at h
 | n+1,t,ty,h,fuel,cs,x,hx=>by
  unfold shapeOk at h
  split at h
  · rename_i k hu
    cases ty<;>simp only[beq_iff_eq] at h<;>try cases h
    obtain⟨m,rfl,_,hw⟩:=DataW.trod_int hu hx
    exact⟨m,rfl,hw⟩
  · rename_i hu
    cases ty<;>simp only at h<;>try cases h
    obtain⟨b,rfl,_⟩:=DataW.trod_bool hu hx
    exact⟨b,rfl,trivial⟩
  · rename_i hu
    cases ty<;>simp only at h<;>try cases h
    obtain⟨s,rfl,_,hs⟩:=DataW.trod_string hu hx
    exact⟨s,rfl,hs⟩
  · rename_i e hu
    cases ty with
    | list e' ty=>
     simp only[Bool.and_eq_true,beq_iff_eq] at h
     rcases DataW.trod_slice hu hx with ⟨rfl,_⟩ | ⟨a,len,cap,elems,rest,m,rfl,rfl,_,hb,hl,hm,hlen,hel,_⟩
     · exact⟨[],⟨none,0,0,[],rfl,rfl,Nat.le_refl _,rfl,fun j u hj=>by simp at hj,fun _=>rfl⟩,by simp[OkD]⟩
     · have key:∀k,k≤len→∃(xs:List ty.den) (es:List Value),xs.length=k∧Cat (DR (allOf w) w ty) xs es∧(∀j u,es[j]? = some u→w.cell? (a.add j)=some u)∧∀y∈xs,OkD ty y:=by
        intro k
        induction k with
        | zero=>exact fun _=>⟨[],[],rfl,rfl,fun j u hj=>by simp at hj,fun y hy=>by simp at hy⟩
        | succ k ihk=>
         intro hk
         obtain⟨xs,es,q1,q2,q3,q4⟩:=ihk (by omega)
         have hk':=hel k (by omega)
         rw[List.getElem?_eq_getElem (by omega),Option.bind_eq_some_iff] at hk'
         obtain⟨ds,hd1,hd2⟩:=hk'
         obtain⟨v,g1,g2⟩:=trod_dr n e ty h.1 m ds _ hd2
         obtain⟨c1,c2⟩:=cells_get hd1
         have hes:=Cat.length (DR.length ty) _ _ q2
         refine⟨xs++[v],es++ds,by simp[q1],Cat.append _ _ _ _ q2 ⟨ds,[],by simp,g1,rfl⟩,fun j u hj => ?_,fun y hy => ?_⟩
         · by_cases hj2:j<es.length
           · rw[List.getElem?_append_left hj2] at hj
             exact q3 j u hj
           · rw[List.getElem?_append_right (by omega)] at hj
             have:=c2 _ u hj
             rw[add_add,h.2] at this
             rwa [show k*ty.size+(j-es.length)=j by rw[hes,q1];rw[hes,q1] at hj2;omega] at this
         · rcases List.mem_append.1 hy with hy | hy
           · exact q4 y hy
           · simp at hy;subst hy;exact g2
       obtain⟨xs,es,q1,q2,q3,q4⟩:=key len (Nat.le_refl _)
       refine⟨xs,⟨some a,len,cap,es,rfl,q1.symm,hl,q2,fun j u hj=>⟨a,rfl,?_,q3 j u hj⟩,fun h=>by cases h⟩,by show xs.length≤maxLen;omega,q4⟩
       have:=World.block_lt_of_cell? w _ (q3 j u hj)
       rwa [show (a.add j).block=a.block by unfold Addr.add;split<;>rfl] at this
    | _=>simp at h
  · rename_i fs hu
    simp only[Bool.and_eq_true,beq_iff_eq] at h
    obtain⟨xs,m,rfl,_,hl,hlx,hf⟩:=DataW.trod_struct hu hx
    have:=fields_dr (cs:=cs) (m:=m) (ok:=shapeOk P n) (fun t ty hok cs x hh=>trod_dr n t ty hok m cs x hh) fs.toList 0 ty xs h.1 (by simpa using hlx) (fun i f hi=>hf i f (by simpa using hi))
    rw[List.drop_zero,List.take_of_length_le (by rw[hl,h.2];exact Nat.le_refl _)] at this
    exact this
  · rename_i k e hu
    simp only[Bool.and_eq_true,beq_iff_eq] at h
    obtain⟨xs,m,rfl,_,hl,hlx,hf⟩:=DataW.trod_array hu hx
    have:=elems_dr (cs:=cs) (m:=m) (ok:=shapeOk P n) (fun t ty hok cs x hh=>trod_dr n t ty hok m cs x hh) k 0 ty h.1 (fun i hi=>by
     rw[Nat.zero_add]
     exact⟨xs[i],by rw[hf i hi];exact List.getElem?_eq_getElem (by omega)⟩)
    rw[Nat.zero_mul,List.drop_zero,List.take_of_length_le (by rw[hl,h.2];exact Nat.le_refl _)] at this
    exact this
  · cases h
end
end Go.Proofs.YtkpjcmiijlpcaaaDoor.Aw
namespace Go.Proofs.YtkpjcmiijlpcaaaDoor.Aw
open Go Go.ChangeShapes Go.WideShapes Go.ChangeAt Go.RowKit
abbrev Par:=Bool×Ty
def argA (p:Par) (x:p.2.den):AV:=bif p.1 then .agg (AV.ofList (enc p.2 x)) else (enc p.2 x).headD .undef
@[reducible] def ArgsDen:List Par→Type
 | []=>Unit
 | p::l=>p.2.den×ArgsDen l
def argsA:(l:List Par)→ArgsDen l→List AV
 | [],_=>[]
 | p::l,x=>argA p x.1::argsA l x.2
def OkArgs:(l:List Par)→ArgsDen l→Prop
 | [],_=>True
 | p::l,x=>OkD p.2 x.1∧OkArgs l x.2
def RoomD (P:Program) (u:TypeId):(t:Ty)→t.den→Prop
 | .list e _,xs=>P.underlying u=some (.slice e)→xs.length*P.bytesOf e≤reachBytes
 | _,_=>True
def RoomArgs (P:Program):List TypeId→(l:List Par)→ArgsDen l→Prop
 | u::us,p::l,x=>RoomD P u p.2 x.1∧RoomArgs P us l x.2
 | _,_,_=>True
def parOk (P:Program) (t:TypeId) (p:Par):Bool:=shapeOk P 20 t p.2&&(match P.underlying t with
 | some (.struct _)=>p.1
 | some (.array _ _)=>p.1
 | _ => !p.1)&&P.readableRec t&&decide (t<P.types.size)
def parsOk (P:Program):List TypeId→List Par→Bool
 | [],[]=>true
 | t::ts,p::l=>parOk P t p&&parsOk P ts l
 | _,_=>false
section
variable {Hh:Type} {enc':TypeId×Value→Hh} {P:Program} {W:World} {base:Nat}
theorem room_of {t:TypeId} {ty:Ty} {x:ty.den} {cs:List Value} (hx:DR (allOf W) W ty x cs) {fuel:Nat} {d:DataW Hh×List MemPlace} (ht:DataW.trod enc' P W 0 (fun _=>true) true fuel t cs=some d)
 (hz:∀n∈d.1.weights P t,n≤reachBytes):RoomD P t ty x:=by
 cases ty with
 | list e ty=>
  intro hu
  obtain⟨a,m,c,es,rfl,e2,_⟩:=hx
  rcases DataW.trod_slice hu ht with ⟨e1,_⟩ | ⟨a',len,cap,elems,rest,m',_,e1,rfl,_,_,_,hlen,_⟩
  · simp at e1
    have:x.length=0:=by rw[←e2];exact e1.2.1
    rw[this];omega
  · simp at e1
    have:=hz _ (by simp only[DataW.weights,hu];exact List.mem_cons_self ..)
    simp only[List.length_map] at this
    refine Nat.le_trans (Nat.mul_le_mul_right _ ?_) this
    omega
 | _=>trivial
theorem arg_vl {t:TypeId} {p:Par} (hp:parOk P t p=true) {v:Value} {d:DataW Hh} {ps:List MemPlace} (hw:Value.okWide P W .any base t v) (ht:DataW.Trod enc' P W 0 (fun _=>true) true t v d ps) (hz:∀n∈d.weights P t,n≤reachBytes) :
 ∃x:p.2.den,VL (allOf W) W cr0 ob0 (argA p x) [v]∧OkD p.2 x∧RoomD P t p.2 x:=by
 obtain⟨b,ty⟩:=p
 simp only[parOk,Bool.and_eq_true] at hp
 obtain⟨⟨⟨h1,h2⟩,_⟩,_⟩:=hp
 obtain⟨fuel,hf⟩:=ht
 obtain⟨x,g1,g2⟩:=trod_dr 20 t ty h1 fuel _ _ hf
 refine⟨x,?_,g2,room_of g1 hf hz⟩
 have hvl:=enc_of (β:=cr0) (H:=ob0) ty x _ g1
 have plain:(∀cs,v≠.agg cs)→b=false→VL (allOf W) W cr0 ob0 (argA (b,ty) x) [v]:=by
  intro hne hb
  subst hb
  have hc:v.cells = #[v]:=by
   cases v<;>first
    | rfl
    | exact absurd rfl (hne _)
  rw[hc] at hvl
  obtain⟨a,ha,hv⟩:∃a,enc ty x=[a]∧VL (allOf W) W cr0 ob0 a [v]:=by
   match he:enc ty x,hvl with
   | [a],h=>obtain⟨u,r,e,k1,k2⟩:=h;cases e;exact⟨a,rfl,k1⟩
   | a::a'::l,h=>obtain⟨u,r,e,k1,u',r',e',_⟩:=h;cases e;cases e'
  show VL _ _ _ _ ((enc ty x).headD .undef) [v]
  rw[ha]
  exact hv
 have aggr:(∃cs,v=.agg cs)→b=true→VL (allOf W) W cr0 ob0 (argA (b,ty) x) [v]:=by
  rintro ⟨cs,rfl⟩ rfl
  exact⟨cs.toList,by simp,VLs.of_list _ _ hvl⟩
 unfold Value.okWide at hw
 cases hu:P.underlying t with
 | none=>unfold shapeOk at h1;simp only[hu] at h1;cases h1
 | some dd=>
  unfold shapeOk at h1
  simp only[hu] at h1 h2 hw
  cases dd<;>simp only at h1 h2 hw<;>try (exact (Bool.false_ne_true h1).elim)
  case struct fs=>obtain⟨cs,e,_⟩:=hw;exact aggr ⟨cs,e⟩ h2
  case array n e=>obtain⟨cs,e,_⟩:=hw;exact aggr ⟨cs,e⟩ h2
  all_goals
   refine plain ?_ (by simpa using h2)
   rintro cs rfl
   simp[Cell.okWide,hu,Cell.ok] at hw
theorem args_vl:∀(ts:List TypeId) (l:List Par) (vs:List Value) (ds:List (DataW Hh)) (ps:List MemPlace),parsOk P ts l=true→DataW.TrodAll enc' P W 0 (fun _=>true) true ts vs ds ps →
 (∀(j:Nat) t v,ts[j]? = some t→vs[j]? = some v→Value.okWide P W .any base t v)→(∀n∈DataW.weightsEach P ts ds,n≤reachBytes)→∃x:ArgsDen l,VLs (allOf W) W cr0 ob0 (argsA l x) vs∧OkArgs l x∧RoomArgs P ts l x
 | [],[],vs,ds,ps,_,ht,_,_=>by
  obtain⟨rfl,_,_⟩:=trodAll_nil ht
  exact⟨(),rfl,trivial,trivial⟩
 | [],_::_,_,_,_,h,_,_,_=>by simp[parsOk] at h
 | _::_,[],_,_,_,h,_,_,_=>by simp[parsOk] at h
 | t::ts,p::l,vs,ds,ps,h,ht,hw,hz=>by
  simp only[parsOk,Bool.and_eq_true] at h
  obtain⟨v,vs',d,ds',p0,q0,rfl,rfl,rfl,h0,r0⟩:=trodAll_cons ht
  obtain⟨x,g1,g2,g3⟩:=arg_vl h.1 (hw 0 t v rfl rfl) h0 (fun n hn=>hz n (by simp only[DataW.weightsEach,List.mem_append];exact .inl hn))
  obtain⟨y,k1,k2,k3⟩:=args_vl ts l vs' ds' q0 h.2 r0 (fun j t' v' h1 h2=>hw (j+1) t' v' (by simpa using h1) (by simpa using h2)) (fun n hn=>hz n (by simp only[DataW.weightsEach,List.mem_append];exact .inr hn))
  exact⟨(x,y),⟨v,vs',rfl,g1,k1⟩,⟨g2,k2⟩,g3,k3⟩
theorem trodAll_below (hl:laidOutB P=true) {W':World} (hb:Below W.heap.size W W'):∀(ts:List TypeId) (l:List Par) (vs:List Value) (ds:List (DataW Hh)) (ps:List MemPlace),parsOk P ts l=true→DataW.TrodAll enc' P W 0 (fun _=>true) true ts vs ds ps →
 DataW.TrodAll enc' P W' 0 (fun b=>decide (b<W.heap.size)) true ts vs ds ps
 | [],[],vs,ds,ps,_,ht=>by
  obtain⟨rfl,rfl,rfl⟩:=trodAll_nil ht
  exact trodAll_mk0
 | [],_::_,_,_,_,h,_=>by simp[parsOk] at h
 | _::_,[],_,_,_,h,_=>by simp[parsOk] at h
 | t::ts,p::l,vs,ds,ps,h,ht=>by
  simp only[parsOk,Bool.and_eq_true] at h
  obtain⟨v,vs',d,ds',p0,q0,rfl,rfl,rfl,h0,r0⟩:=trodAll_cons ht
  have h1:=h.1
  simp only[parOk,Bool.and_eq_true,decide_eq_true_eq] at h1
  have lt0:∀x∈p0,x.block<W.heap.size:=by obtain⟨m,hm⟩:=h0;exact DataW.trod_lt m _ _ _ hm
  exact trodAll_cons_mk (Below.trod hl h1.1.2 h1.2 h0 hb lt0) (trodAll_below hl hb ts l vs' ds' q0 h.2 r0)
theorem trodAll_len:∀(ts:List TypeId) (vs:List Value) (ds:List (DataW Hh)) (ps:List MemPlace),DataW.TrodAll enc' P W 0 (fun _=>true) true ts vs ds ps→ds.length=ts.length
 | [],vs,ds,ps,ht=>by obtain⟨_,rfl,_⟩:=trodAll_nil ht;rfl
 | t::ts,vs,ds,ps,ht=>by
  obtain⟨v,vs',d,ds',p0,q0,_,rfl,_,_,r0⟩:=trodAll_cons ht
  simp[trodAll_len ts vs' ds' q0 r0]
end
end Go.Proofs.YtkpjcmiijlpcaaaDoor.Aw
namespace Go.Proofs.YtkpjcmiijlpcaaaDoor.Aw
open Go
def TI.agg (i:TI):Bool:=match i.d with
 | .struct _=>true
 | .array _ _=>true
 | _=>false
end Go.Proofs.YtkpjcmiijlpcaaaDoor.Aw
namespace Go.Proofs.YtkpjcmiijlpcaaaDoor.Aw
open Go Go.ChangeShapes Go.WideShapes Go.ChangeAt Go.RowKit
noncomputable def blk {α:Type} (x:α):α:=Classical.choose (⟨x,rfl⟩:∃y,y=x)
theorem blk_eq {α:Type} (x:α):blk x=x:=Classical.choose_spec (⟨x,rfl⟩:∃y,y=x)
def TI.sl (i:TI):Bool:=match i.d with
 | .slice _=>true
 | _=>false
def Tab.tellS (T:Tab) (t:TypeId) (x:Ty):Tab:=bif (T.at_ t).sl then (t,{T.at_ t with t:=some x})::T else T
theorem TabOk.tellS {P:Program} {T:Tab} (h:TabOk P T) (t:TypeId) (x:Ty):TabOk P (T.tellS t x):=by
 unfold Tab.tellS
 cases ha:(T.at_ t).sl with
 | false=>exact h
 | true=>
  intro t' hk
  unfold Tab.at_ at hk ⊢
  rw[cond_true,List.lookup_cons] at hk ⊢
  cases e:t'==t with
  | false=>rw[e] at hk;exact h t' hk
  | true=>
   have e:t'=t:=by simpa using e
   subst e
   have hd:(T.at_ t').d≠.unk:=by
    intro hc;rw[TI.sl,hc] at ha;cases ha
   obtain⟨h1,h2,h3,h4⟩:=h t' hd
   have key:DescOk P t' {T.at_ t' with t:=some x}:=by
    unfold DescOk at h3 ⊢
    unfold TI.sl at ha
    cases hc:(T.at_ t').d with
    | slice e=>rw[hc] at h3;simp only;exact h3
    | struct fs=>rw[hc] at ha;cases ha
    | array n e=>rw[hc] at ha;cases ha
    | unk=>rw[hc] at ha;cases ha
    | scalar=>rw[hc] at ha;cases ha
    | map k e=>rw[hc] at ha;cases ha
   exact⟨h1,h2,key,h4⟩
theorem bytes_eq (a b:ByteArray):(ByteArray.toList a==ByteArray.toList b)=decide (a=b):=by
 by_cases h:a=b
 · subst h;simp
 · rw[decide_eq_false h,beq_eq_false_iff_ne,ByteArray.toList_eq,ByteArray.toList_eq]
   intro h2
   exact h (ByteArray.ext (Array.toList_inj.1 h2))
theorem row_liftL {C:Checked} {os:Os} {f:FuncId} {fn:Func} {s:ChangeSpec} {conds:List PathCond} {Hh:Type} {enc':TypeId×Value→Hh} {X:World→Array Value→Prop} (hX:∀(w w':World) (args:Array Value),w.heap=w'.heap→X w args→X w' args)
 (own:ownKnob C.prog.godebug=none) (started:os.Started) (noInit:C.prog.inits.idxOf? f=none) (hfn:C.prog.funcs[f]? = some fn) (hlaid:laidOutB C.prog=true)
 (witness:∃(w:World) (tape:Tape) (i:Input),w.os=os∧(w.forCall tape i).Shaped C.prog∧i.vars=[]∧Input.okWide C.prog (w.forCall tape i) .any w.heap.size f i ∧
  ((s.pre enc' C.prog fn conds false (w.forCall tape i).memory i.args∧X (w.forCall tape i).memory i.args)∧sizedMet enc' C.prog fn (OpenSpec.ofChange s) false (w.forCall tape i).memory i.args)∧Assume.holds {} C.prog (lone (Frame.enter C.prog f i.args .normal) [] (w.forCall tape i)))
 (l:List Par) (hl:parsOk C.prog fn.params.toList l=true) {tb:TypeId} (hres:fn.resultTypes = #[tb]) (hb:C.prog.underlying tb=some .bool) (hvars:s.vars=[])
 (hs:∀ds:List (DataW Hh),ds.length=fn.params.toList.length→s.fn Hh ds={results:=[.lit (.bool true)],args:=ds})
 (hc:∀x:ArgsDen l,OkArgs l x→RoomArgs C.prog fn.params.toList l x→ACalls C.prog f (argsA l x) (.bool true) []) (hgl:∀W args,X W args→GL (allOf W) W) :
 ReturnsInHanded {} C os f .any (fun w args=>(s.pre enc' C.prog fn conds false w args∧X w args)∧sizedMet enc' C.prog fn (OpenSpec.ofChange s) false w args) (s.post enc' C.prog fn false true false false):=by
 refine returnsInHanded_of_change_and (X:=X) hX own started noInit hfn witness ?_
 intro W base args ds gs before hval hW _ hz hL _
 have hW':=hW
 obtain⟨p,q,hA,hV,rfl,hfz,hnd⟩:=hW
 rw[hvars] at hV
 obtain⟨rfl,rfl⟩:=trodVars_none hV
 have hz':∀n∈DataW.weightsEach C.prog fn.params.toList ds,n≤reachBytes:=by
  intro n hn
  have:=List.all_eq_true.1 hz n (by
   rw[List.append_nil]
   have hv0:s.plain.varTypes C.prog=[]:=by simp only[ChangeSpec.plain,DataSpec.varTypes,hvars];rfl
   rw[hv0,List.append_nil]
   exact hn)
  simpa using this
 obtain⟨x,g1,g2,g3⟩:=args_vl (base:=base) fn.params.toList l args.toList ds p hl hA (fun j t v h1 h2=>hval j t v (by simpa using h1) (by simpa using h2)) hz'
 have hcall:=(hc x g2 g3).run (allOf W) W args.toList (fun b hb=>hb) (hgl W args hL) g1
 have e:args.toList.toArray=args:=by simp
 rw[e] at hcall
 refine hcall.mono ?_
 rintro _ W' ⟨u,rfl,S',β',hrel,hv⟩
 have hu:=VL.bool hv
 subst hu
 have bel:Below W.heap.size W W':=⟨hrel.fr.os,hrel.fr.tape,hrel.fr.output,hrel.fr.size,fun k hk=>hrel.fr.block k hk (fun h=>h)⟩
 have hfn':=hs ds (trodAll_len _ _ _ _ hA)
 refine⟨_,rfl,ds,[],p++[],[],p,[],hW',?_,?_,?_,bel.frame _,fun h=>by cases h⟩
 · rw[List.append_nil,hfn',hres]
   exact trodAll_mk1 (shut_bool hb _)
 · rw[List.append_nil,hfn']
   exact trodAll_below hlaid bel _ l _ _ _ hl hA
 · rw[List.append_nil,hfn',hvars]
   rfl
end Go.Proofs.YtkpjcmiijlpcaaaDoor.Aw
