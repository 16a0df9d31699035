/- What is built of boxes is a tree; a context's walk goes through its members, in order. -/
import Derived.Test.YtkpjcmiijlpcaaaGreatFd
import Derived.Test.YtkpjcmiijlpcaaaGreatFi
import Derived.Test.YtkpjcmiijlpcaaaGreatFe
set_option linter.unusedVariables false
set_option linter.unusedSimpArgs false
namespace Go.Proofs.YtkpjcmiijlpcaaaGreat.W
open Go Go.Proofs Go.Proofs.YtkpjcmiijlpcaaaGreat.Aw
structure TreeI (n:Int) (par:Int→Int) (op:Int→Bool) (ct:Int→Int) (ks:Int→List Int):Prop where
 par_lt:∀j,0≤j→j<n→par j<j
 par_0:∀j,0<j→j<n→0≤par j
 mem:∀i j,0≤i→i<n→(j∈ks i↔0<j∧j<n∧par j=i)
 sorted:∀i,0≤i→i<n→(ks i).Pairwise (· < ·)
 ct_eq:∀j,0<j→j<n→ct j=bif op (par j) then par j else ct (par j)
 nest:∀j m,0≤m→m<j→j<n→par j<m→par j≤par m
 root:op 0=true
def innF (op:Int→Bool) (ks:Int→List Int) (i:Int):List Int:=bif op i then [] else ks i
def desc (inn:Int→List Int):Nat→Int→List Int
 | 0,_=>[]
 | f+1,i=>i::(inn i).flatMap (desc inn f)
theorem sorted_ext:∀(l m:List Int),l.Pairwise (· < ·)→m.Pairwise (· < ·)→(∀x,x∈l↔x∈m)→l=m
 | [],[],_,_,_=>rfl
 | [],y::m,_,_,h=>by have:=(h y).2 (by simp);simp at this
 | x::l,[],_,_,h=>by have:=(h x).1 (by simp);simp at this
 | x::l,y::m,h1,h2,h=>by
  rw[List.pairwise_cons] at h1 h2
  have hxy:x=y:=by
   have a:=(h x).1 (by simp)
   have b:=(h y).2 (by simp)
   rcases List.mem_cons.1 a with a | a
   · exact a
   · rcases List.mem_cons.1 b with b | b
     · exact b.symm
     · have:=h1.1 _ b;have:=h2.1 _ a;omega
  subst hxy
  rw[sorted_ext l m h1.2 h2.2 fun z => ?_]
  constructor
  · intro hz
    have:=(h z).1 (by simp[hz])
    rcases List.mem_cons.1 this with e | e
    · have:=h1.1 _ hz;omega
    · exact e
  · intro hz
    have:=(h z).2 (by simp[hz])
    rcases List.mem_cons.1 this with e | e
    · have:=h2.1 _ hz;omega
    · exact e
section
variable {n:Int} {par ct:Int→Int} {op:Int→Bool} {ks:Int→List Int}
theorem innF_sub (i j:Int) (h:j∈innF op ks i):j∈ks i∧op i=false:=by
 unfold innF at h
 cases ho:op i with
 | true=>rw[ho] at h;simp at h
 | false=>rw[ho] at h;exact⟨h,rfl⟩
theorem desc_range (t:TreeI n par op ct ks):∀(f:Nat) (i:Int),0≤i→i<n→∀j∈desc (innF op ks) f i,i≤j∧j<n
 | 0,_,_,_,j,h=>by simp[desc] at h
 | f+1,i,h0,h1,j,h=>by
  simp only[desc,List.mem_cons,List.mem_flatMap] at h
  rcases h with rfl | ⟨m,hm,hj⟩
  · exact⟨Int.le_refl _,h1⟩
  · obtain⟨q1,q2,q3⟩:=(t.mem i m h0 h1).1 (innF_sub i m hm).1
    have:=t.par_lt m (by omega) q2
    have:=desc_range t f m (by omega) q2 j hj
    omega
theorem desc_nest (t:TreeI n par op ct ks):∀(f:Nat) (i:Int),0≤i→i<n→∀j∈desc (innF op ks) f i,∀k,i<k→k≤j→i≤par k
 | 0,_,_,_,j,h=>by simp[desc] at h
 | f+1,i,h0,h1,j,h=>by
  intro k hk1 hk2
  simp only[desc,List.mem_cons,List.mem_flatMap] at h
  rcases h with rfl | ⟨m,hm,hj⟩
  · omega
  · obtain⟨q1,q2,q3⟩:=(t.mem i m h0 h1).1 (innF_sub i m hm).1
    have hpl:=t.par_lt m (by omega) q2
    rcases Int.lt_trichotomy k m with h | h | h
    · have:=t.nest m k (by omega) h q2 (by omega);omega
    · rw[h];omega
    · have:=desc_nest t f m (by omega) q2 j hj k h hk2;omega
theorem kids_sorted (t:TreeI n par op ct ks) (f:Nat) (c:Int) (h0:0≤c) (h1:c<n) (hd:∀i,c<i→i<n→(desc (innF op ks) f i).Pairwise (· < ·)):((ks c).flatMap (desc (innF op ks) f)).Pairwise (· < ·):=by
 rw[List.pairwise_flatMap]
 refine⟨fun i hi => ?_,?_⟩
 · obtain⟨q1,q2,q3⟩:=(t.mem c i h0 h1).1 hi
   have:=t.par_lt i (by omega) q2
   exact hd i (by omega) q2
 · refine List.Pairwise.imp_of_mem ?_ (t.sorted c h0 h1)
   intro a b ha hb hab x hx y hy
   obtain⟨a1,a2,a3⟩:=(t.mem c a h0 h1).1 ha
   obtain⟨b1,b2,b3⟩:=(t.mem c b h0 h1).1 hb
   have hy':=desc_range t f b (by omega) b2 y hy
   have hpa:=t.par_lt a (by omega) a2
   rcases Int.lt_or_le x b with h | h
   · omega
   · have:=desc_nest t f a (by omega) a2 x hx b hab h;omega
theorem desc_sorted (t:TreeI n par op ct ks):∀(f:Nat) (i:Int),0≤i→i<n→(desc (innF op ks) f i).Pairwise (· < ·)
 | 0,_,_,_=>by simp[desc]
 | f+1,i,h0,h1=>by
  simp only[desc]
  rw[List.pairwise_cons]
  refine⟨fun j hj => ?_,?_⟩
  · obtain⟨m,hm,hj⟩:=List.mem_flatMap.1 hj
    obtain⟨q1,q2,q3⟩:=(t.mem i m h0 h1).1 (innF_sub i m hm).1
    have:=t.par_lt m (by omega) q2
    have:=desc_range t f m (by omega) q2 j hj
    omega
  · unfold innF
    cases op i with
    | true=>simp
    | false=>exact kids_sorted t f i h0 h1 fun m q1 q2=>desc_sorted t f m (by omega) q2
theorem desc_self (inn:Int→List Int) (f:Nat) (i:Int) (h:0<f):i∈desc inn f i:=by
 obtain⟨g,rfl⟩:∃g,f=g+1:=⟨f-1,by omega⟩
 simp[desc]
theorem desc_kid (t:TreeI n par op ct ks):∀(f:Nat) (i:Int),0≤i→i<n→n-i≤f→∀p∈desc (innF op ks) f i,∀j∈innF op ks p,j∈desc (innF op ks) f i
 | 0,_,_,_,_,p,h=>by simp[desc] at h
 | f+1,i,h0,h1,hf,p,h=>by
  intro j hj
  simp only[desc,List.mem_cons,List.mem_flatMap] at h ⊢
  rcases h with rfl | ⟨m,hm,hp⟩
  · obtain⟨q1,q2,q3⟩:=(t.mem p j h0 h1).1 (innF_sub p j hj).1
    have:=t.par_lt j (by omega) q2
    exact .inr ⟨j,hj,desc_self _ _ _ (by omega)⟩
  · obtain⟨q1,q2,q3⟩:=(t.mem i m h0 h1).1 (innF_sub i m hm).1
    have:=t.par_lt m (by omega) q2
    exact .inr ⟨m,hm,desc_kid t f m (by omega) q2 (by omega) p hp j hj⟩
theorem desc_ct (t:TreeI n par op ct ks) (c:Int):∀(f:Nat) (i:Int),0<i→i<n→ct i=c→∀j∈desc (innF op ks) f i,0<j∧j<n∧ct j=c
 | 0,_,_,_,_,j,h=>by simp[desc] at h
 | f+1,i,h0,h1,hc,j,h=>by
  simp only[desc,List.mem_cons,List.mem_flatMap] at h
  rcases h with rfl | ⟨m,hm,hj⟩
  · exact⟨h0,h1,hc⟩
  · obtain⟨hk,ho⟩:=innF_sub i m hm
    obtain⟨q1,q2,q3⟩:=(t.mem i m (by omega) h1).1 hk
    refine desc_ct t c f m q1 q2 ?_ j hj
    rw[t.ct_eq m q1 q2,q3,ho]
    exact hc
theorem kids_mem (t:TreeI n par op ct ks) (f:Nat) (c:Int) (h0:0≤c) (h1:c<n) (hf:n≤f) (ho:op c=true) (j:Int):j∈(ks c).flatMap (desc (innF op ks) f)↔0<j∧j<n∧ct j=c:=by
 constructor
 · intro hj
   obtain⟨m,hm,hj⟩:=List.mem_flatMap.1 hj
   obtain⟨q1,q2,q3⟩:=(t.mem c m h0 h1).1 hm
   exact desc_ct t c f m q1 q2 (by rw[t.ct_eq m q1 q2,q3,ho];rfl) j hj
 · obtain⟨k,hk⟩:∃k:Nat,j<k:=⟨(j+1).toNat,by omega⟩
   induction k generalizing j with
   | zero=>rintro ⟨h,_⟩;omega
   | succ k ih=>
    rintro ⟨g1,g2,g3⟩
    have hpl:=t.par_lt j (by omega) g2
    have hp0:=t.par_0 j g1 g2
    have hce:=t.ct_eq j g1 g2
    cases hop:op (par j) with
    | true=>
     rw[hop,cond_true,g3] at hce
     exact List.mem_flatMap.2 ⟨j,(t.mem c j h0 h1).2 ⟨g1,g2,hce.symm⟩,desc_self _ _ _ (by omega)⟩
    | false=>
     rw[hop,cond_false,g3] at hce
     have hne:par j≠0:=fun e=>by rw[e,t.root] at hop;cases hop
     have:=ih (par j) (by omega) ⟨by omega,by omega,hce.symm⟩
     obtain⟨m,hm,hpm⟩:=List.mem_flatMap.1 this
     obtain⟨q1,q2,q3⟩:=(t.mem c m h0 h1).1 hm
     refine List.mem_flatMap.2 ⟨m,hm,desc_kid t f m (by omega) q2 (by omega) _ hpm j ?_⟩
     unfold innF
     rw[hop,cond_false]
     exact (t.mem (par j) j hp0 (by omega)).2 ⟨g1,g2,rfl⟩
def memI (n:Int) (ct:Int→Int) (c:Int):List Int:=((List.range n.toNat).map fun (j:Nat)=>(j:Int)).filter fun j=>decide (0<j)&&ct j==c
theorem memI_sorted (n:Int) (ct:Int→Int) (c:Int):(memI n ct c).Pairwise (· < ·):=by
 unfold memI
 refine List.Pairwise.filter _ ?_
 rw[List.pairwise_map]
 exact List.Pairwise.imp (fun h=>by omega) List.pairwise_lt_range
theorem memI_mem (n:Int) (ct:Int→Int) (c j:Int):j∈memI n ct c↔0<j∧j<n∧ct j=c:=by
 unfold memI
 rw[List.mem_filter,List.mem_map]
 simp only[List.mem_range,Bool.and_eq_true,decide_eq_true_eq,beq_iff_eq]
 constructor
 · rintro ⟨⟨k,hk,rfl⟩,h1,h2⟩;exact⟨h1,by omega,h2⟩
 · rintro ⟨h1,h2,h3⟩;exact⟨⟨j.toNat,by omega,by omega⟩,h1,h3⟩
theorem kids_eq (t:TreeI n par op ct ks) (f:Nat) (c:Int) (h0:0≤c) (h1:c<n) (hf:n≤f) (ho:op c=true):(ks c).flatMap (desc (innF op ks) f)=memI n ct c:=
 sorted_ext _ _ (kids_sorted t f c h0 h1 fun i q1 q2=>desc_sorted t f i (by omega) q2) (memI_sorted n ct c) fun j=>by rw[kids_mem t f c h0 h1 hf ho,memI_mem]
end
def evsW (inn:Int→List Int):Nat→Int→List Ev
 | 0,_=>[]
 | f+1,i=>(i,false)::((inn i).flatMap (evsW inn f)++[(i,true)])
def RunsW (inn:Int→List Int):List Ev→List Ev→List Ev→Prop
 | st,[],st'=>st=st'
 | st,e::es,st'=>st≠[]∧st.getD (st.length-1) (0,false)=e∧RunsW inn (nextW inn st) es st'
theorem RunsW.append {inn:Int→List Int}:∀ {es st st1 es' st2},RunsW inn st es st1→RunsW inn st1 es' st2→RunsW inn st (es++es') st2
 | [],_,_,_,_,h1,h2=>by cases h1;exact h2
 | _::_,_,_,_,_,⟨h1,h2,h3⟩,h4=>⟨h1,h2,RunsW.append h3 h4⟩
theorem top_get (st:List Ev) (e:Ev):(st++[e]).getD ((st++[e]).length-1) (0,false)=e:=by
 simp[List.getD]
theorem next_in (inn:Int→List Int) (st:List Ev) (i:Int):nextW inn (st++[(i,false)])=(st++[(i,true)])++(inn i).reverse.map fun i=>(i,false):=by
 unfold nextW
 rw[top_get]
 simp
theorem next_out (inn:Int→List Int) (st:List Ev) (i:Int):nextW inn (st++[(i,true)])=st:=by
 unfold nextW
 rw[top_get]
 simp
theorem runs_list {inn:Int→List Int} {g:Int→List Ev}:∀(l:List Int) (st:List Ev),(∀i∈l,∀st,RunsW inn (st++[(i,false)]) (g i) st)→RunsW inn (st++l.reverse.map fun i=>(i,false)) (l.flatMap g) st
 | [],st,_=>by simp[RunsW]
 | i::l,st,h=>by
  rw[List.reverse_cons,List.map_append,←List.append_assoc,List.flatMap_cons]
  exact (h i (by simp) _).append (runs_list l st fun j hj=>h j (by simp[hj]))
theorem runs_desc {n:Int} {par ct:Int→Int} {op:Int→Bool} {ks:Int→List Int} (t:TreeI n par op ct ks):∀(f:Nat) (i:Int),0≤i→i<n→n-i≤f→∀st,RunsW (innF op ks) (st++[(i,false)]) (evsW (innF op ks) f i) st
 | 0,i,h0,h1,hf,st=>by omega
 | f+1,i,h0,h1,hf,st=>by
  refine⟨by simp,top_get _ _,?_⟩
  rw[next_in]
  refine RunsW.append (runs_list (g:=evsW (innF op ks) f) _ _ fun j hj st => ?_) ⟨by simp,top_get _ _,?_⟩
  · obtain⟨q1,q2,q3⟩:=(t.mem i j h0 h1).1 (innF_sub i j hj).1
    have:=t.par_lt j (by omega) q2
    exact runs_desc t f j (by omega) q2 (by omega) st
  · rw[next_out];rfl
theorem runs_cnt {inn:Int→List Int}:∀(es st:List Ev) (f:Nat),RunsW inn st es []→es.length≤f→cntW inn f st=es.length∧stW inn es.length st=[]∧∀y,y<es.length→evW inn st y=es.getD y (0,false)
 | [],st,f,h,_=>by
  cases h
  refine⟨?_,rfl,fun y hy=>by simp at hy⟩
  cases f<;>rfl
 | e::es,st,f,⟨h1,h2,h3⟩,hf=>by
  obtain⟨g,rfl⟩:∃g,f=g+1:=⟨f-1,by simp at hf;omega⟩
  obtain⟨q1,q2,q3⟩:=runs_cnt es _ g h3 (by simpa using hf)
  refine⟨?_,?_,fun y hy => ?_⟩
  · simp only[cntW]
    rw[show st.isEmpty=false by cases st<;>simp_all,cond_false,q1]
    rfl
  · rw[List.length_cons,←stW_next];exact q2
  · cases y with
    | zero=>exact h2
    | succ y=>
     have:=q3 y (by simpa using hy)
     unfold evW at this ⊢
     rw[←stW_next]
     exact this
def entW (es:List Ev):List Int:=es.filterMap fun e=>bif e.2 then none else some e.1
theorem ent_flat {α:Type} (g:α→List Ev):∀l:List α,entW (l.flatMap g)=l.flatMap fun i=>entW (g i)
 | []=>rfl
 | i::l=>by rw[List.flatMap_cons,List.flatMap_cons,←ent_flat g l];exact List.filterMap_append
theorem ent_desc (inn:Int→List Int):∀(f:Nat) (i:Int),entW (evsW inn f i)=desc inn f i
 | 0,_=>rfl
 | f+1,i=>by
  have h1:entW ((inn i).flatMap (evsW inn f)++[(i,true)])=(inn i).flatMap (desc inn f):=by
   have:entW ((inn i).flatMap (evsW inn f)++[(i,true)])=entW ((inn i).flatMap (evsW inn f))++[]:=List.filterMap_append
   rw[this,List.append_nil,ent_flat]
   exact congrArg (fun g=>(inn i).flatMap g) (funext fun j=>ent_desc inn f j)
  simp only[evsW,desc]
  rw[←h1]
  rfl
theorem len_flat {α:Type} (g:α→List Ev) (g':α→List Int) (h:∀i,(g i).length=2*(g' i).length):∀l:List α,(l.flatMap g).length=2*(l.flatMap g').length
 | []=>rfl
 | i::l=>by rw[List.flatMap_cons,List.flatMap_cons,List.length_append,List.length_append,h,len_flat g g' h l];omega
theorem len_desc (inn:Int→List Int):∀(f:Nat) (i:Int),(evsW inn f i).length=2*(desc inn f i).length
 | 0,_=>rfl
 | f+1,i=>by
  simp only[evsW,desc,List.length_cons,List.length_append,List.length_nil]
  rw[len_flat _ _ (len_desc inn f)]
  omega
theorem sorted_len:∀(l:List Int) (a n:Int),(∀x∈l,a≤x∧x<n)→l.Pairwise (· < ·)→l.length≤(n-a).toNat
 | [],_,_,_,_=>Nat.zero_le _
 | x::l,a,n,h,hp=>by
  rw[List.pairwise_cons] at hp
  have h1:=h x (by simp)
  have:=sorted_len l (x+1) n (fun y hy=>⟨by have:=hp.1 y hy;omega,(h y (by simp[hy])).2⟩) hp.2
  rw[List.length_cons]
  omega
theorem walk_all {n:Int} {par ct:Int→Int} {op:Int→Bool} {ks:Int→List Int} (t:TreeI n par op ct ks) (c:Int) (h0:0≤c) (h1:c<n) (ho:op c=true) (F:Nat) (hF:2*n≤F) :
 ∃es:List Ev,entW es=memI n ct c∧cntW (innF op ks) F ((ks c).reverse.map fun i=>(i,false))=es.length∧stW (innF op ks) es.length ((ks c).reverse.map fun i=>(i,false))=[]∧∀y,y<es.length→evW (innF op ks) ((ks c).reverse.map fun i=>(i,false)) y=es.getD y (0,false):=by
 refine⟨(ks c).flatMap (evsW (innF op ks) n.toNat),?_,runs_cnt _ _ F ?_ ?_⟩
 · rw[ent_flat]
   have:(fun i=>entW (evsW (innF op ks) n.toNat i))=desc (innF op ks) n.toNat:=funext fun i=>ent_desc _ _ _
   rw[this]
   exact kids_eq t n.toNat c h0 h1 (by omega) ho
 · have:=runs_list (inn:=innF op ks) (g:=evsW (innF op ks) n.toNat) (ks c) [] fun i hi st=>by
    obtain⟨q1,q2,q3⟩:=(t.mem c i h0 h1).1 hi
    exact runs_desc t n.toNat i (by omega) q2 (by omega) st
   rwa [List.nil_append] at this
 · rw[len_flat _ _ (len_desc _ n.toNat),kids_eq t n.toNat c h0 h1 (by omega) ho]
   have:=sorted_len (memI n ct c) 0 n (fun x hx=>by have:=(memI_mem n ct c x).1 hx;omega) (memI_sorted n ct c)
   omega
theorem getD_out {α:Type} (xs:List α) (j:Nat) (d:α) (h:xs.length≤j):xs.getD j d=d:=by simp[List.getD,List.getElem?_eq_none h]
theorem endN_get (e:Int) (xs:List Nd) (k:Int) (j:Nat):((endN e xs k).getD j zNd).1=(xs.getD j zNd).1∧((endN e xs k).getD j zNd).2.1=(xs.getD j zNd).2.1∧((endN e xs k).getD j zNd).2.2.2=(xs.getD j zNd).2.2.2:=by
 unfold endN
 simp only[List.getD,List.getElem?_set]
 by_cases h:k.toNat=j
 · rw[if_pos h]
   by_cases h2:k.toNat<xs.length
   · rw[if_pos h2,←h];simp[List.getElem?_eq_getElem h2]
   · rw[if_neg h2,←h];simp[List.getElem?_eq_none (Nat.le_of_not_lt h2)]
 · rw[if_neg h];exact⟨rfl,rfl,rfl⟩
theorem ends_get (e:Int) (j:Nat):∀(l:List Int) (xs:List Nd),((l.foldl (endN e) xs).getD j zNd).1=(xs.getD j zNd).1∧((l.foldl (endN e) xs).getD j zNd).2.1=(xs.getD j zNd).2.1∧((l.foldl (endN e) xs).getD j zNd).2.2.2=(xs.getD j zNd).2.2.2
 | [],_=>⟨rfl,rfl,rfl⟩
 | k::l,xs=>by
  obtain⟨a1,a2,a3⟩:=ends_get e j l (endN e xs k)
  obtain⟨b1,b2,b3⟩:=endN_get e xs k j
  rw[List.foldl_cons]
  exact⟨a1.trans b1,a2.trans b2,a3.trans b3⟩
theorem kidN_get (xs:List Nd) (p i:Int) (j:Nat) (hj:j<xs.length):((kidN xs p i).getD j zNd).1=(xs.getD j zNd).1∧((kidN xs p i).getD j zNd).2.1=(xs.getD j zNd).2.1∧((kidN xs p i).getD j zNd).2.2.2.1=(xs.getD j zNd).2.2.2.1∧((kidN xs p i).getD j zNd).2.2.2.2=if p=(j:Int) then (xs.getD j zNd).2.2.2.2++[i] else (xs.getD j zNd).2.2.2.2:=by
 unfold kidN
 by_cases h0:p≥0
 · rw[decide_eq_true h0,cond_true]
   simp only[List.getD,List.getElem?_set]
   by_cases h:p.toNat=j
   · have hp:p=(j:Int):=by omega
     rw[if_pos h,if_pos (by omega),if_pos hp,h]
     exact⟨rfl,rfl,rfl,rfl⟩
   · have hp:¬p=(j:Int):=by omega
     rw[if_neg h,if_neg hp]
     exact⟨rfl,rfl,rfl,rfl⟩
 · rw[decide_eq_false h0,cond_false,if_neg (by omega)]
   exact⟨rfl,rfl,rfl,rfl⟩
theorem getD_app {α:Type} (xs:List α) (x d:α) (j:Nat) (h:j<xs.length):(xs++[x]).getD j d=xs.getD j d:=by
 simp only[List.getD];rw[List.getElem?_append_left h]
theorem getD_last {α:Type} (xs:List α) (x d:α):(xs++[x]).getD xs.length d=x:=by
 simp[List.getD]
theorem step_old {k:Nat} {s:List Nd×List Int} (hl:s.1.length=k) (b:Bx) (j:Nat) (hj:j<k):((stepN s b k).1.getD j zNd).1=(s.1.getD j zNd).1∧((stepN s b k).1.getD j zNd).2.1=(s.1.getD j zNd).2.1∧((stepN s b k).1.getD j zNd).2.2.2.1=(s.1.getD j zNd).2.2.2.1∧((stepN s b k).1.getD j zNd).2.2.2.2=if parN s.2 b.1=(j:Int) then (s.1.getD j zNd).2.2.2.2++[(k:Int)] else (s.1.getD j zNd).2.2.2.2:=by
 obtain⟨a1,a2,a3⟩:=ends_get ((k+1:Nat):Int) j (s.2.take b.1.toNat++[(k:Int)]) (kidN (addN s.1 b (parN s.2 b.1)) (parN s.2 b.1) k)
 obtain⟨b1,b2,b3,b4⟩:=kidN_get (addN s.1 b (parN s.2 b.1)) (parN s.2 b.1) k j (by simp only[addN,List.length_append,List.length_singleton];omega)
 have hg:(addN s.1 b (parN s.2 b.1)).getD j zNd=s.1.getD j zNd:=getD_app _ _ _ _ (by omega)
 rw[hg] at b1 b2 b3 b4
 exact⟨a1.trans b1,a2.trans b2,(congrArg (·.1) a3).trans b3,(congrArg (·.2) a3).trans b4⟩
theorem step_new {k:Nat} {s:List Nd×List Int} (hl:s.1.length=k) (b:Bx) (hp:parN s.2 b.1<k):((stepN s b k).1.getD k zNd).1=b∧((stepN s b k).1.getD k zNd).2.1=parN s.2 b.1∧((stepN s b k).1.getD k zNd).2.2.2.1=withinT 0 (s.1.getD (parN s.2 b.1).toNat zNd).1.2.1 (s.1.getD (parN s.2 b.1).toNat zNd).2.2.2.1 (parN s.2 b.1)∧((stepN s b k).1.getD k zNd).2.2.2.2=[]:=by
 obtain⟨a1,a2,a3⟩:=ends_get ((k+1:Nat):Int) k (s.2.take b.1.toNat++[(k:Int)]) (kidN (addN s.1 b (parN s.2 b.1)) (parN s.2 b.1) k)
 obtain⟨b1,b2,b3,b4⟩:=kidN_get (addN s.1 b (parN s.2 b.1)) (parN s.2 b.1) k k (by simp only[addN,List.length_append,List.length_singleton];omega)
 have hg:(addN s.1 b (parN s.2 b.1)).getD k zNd=(b,parN s.2 b.1,0,withinT s.1.length (s.1.getD (parN s.2 b.1).toNat zNd).1.2.1 (s.1.getD (parN s.2 b.1).toNat zNd).2.2.2.1 (parN s.2 b.1),[]):=by
  rw[←hl];exact getD_last _ _ _
 rw[hg] at b1 b2 b3 b4
 rw[if_neg (by omega)] at b4
 exact⟨a1.trans b1,a2.trans b2,(congrArg (·.1) a3).trans b3,(congrArg (·.2) a3).trans b4⟩
abbrev parA (xs:List Nd) (j:Nat):Int:=(xs.getD j zNd).2.1
structure TreeN (k:Nat) (s:List Nd×List Int):Prop where
 len:s.1.length=k
 el:∀t,t<s.2.length→0≤s.2.getD t 0∧s.2.getD t 0<k
 mono:∀t u,t<u→u<s.2.length→s.2.getD t 0<s.2.getD u 0
 keep:∀t,t<s.2.length→∀m:Nat,s.2.getD t 0<m→m<k→s.2.getD t 0≤parA s.1 m
 par_lt:∀j:Nat,j<k→parA s.1 j<j
 par_0:∀j:Nat,0<j→j<k→0≤parA s.1 j
 mem:∀i:Nat,i<k→∀j:Int,j∈(s.1.getD i zNd).2.2.2.2↔0<j∧j<k∧parA s.1 j.toNat=i
 sorted:∀i:Nat,i<k→(s.1.getD i zNd).2.2.2.2.Pairwise (· < ·)
 ct_eq:∀j:Nat,j<k→(s.1.getD j zNd).2.2.2.1=withinT 0 (s.1.getD (parA s.1 j).toNat zNd).1.2.1 (s.1.getD (parA s.1 j).toNat zNd).2.2.2.1 (parA s.1 j)
 nest:∀j m:Nat,m<j→j<k→parA s.1 j<m→parA s.1 j≤parA s.1 m
 root:0<k→(s.1.getD 0 zNd).1.2.1=3
theorem parN_get {path:List Int} {d:Int} (h:0≤parN path d) (he:∀t,t<path.length→0≤path.getD t 0):1≤d∧d≤path.length∧parN path d=path.getD (d-1).toNat 0:=by
 unfold parN at h ⊢
 by_cases h1:d≥1
 · rw[decide_eq_true h1,cond_true] at h ⊢
   by_cases h2:d≤(path.length:Int)
   · rw[decide_eq_true h2,cond_true];exact⟨h1,h2,rfl⟩
   · rw[decide_eq_false h2,cond_false] at h;omega
 · rw[decide_eq_false h1,cond_false] at h;omega
theorem chk_more {k:Nat} {xs:List Nd} {b:Bx} {p:Int} (hl:xs.length=k) (hc:chkN xs b p=0):(k=0→b.1=0∧b.2.1=3)∧(0<k→0≤p):=by
 unfold chkN chkT at hc
 rw[hl] at hc
 cases h1:((k:Int)==65536) with
 | true=>rw[h1,cond_true] at hc;cases hc
 | false=>
  rw[h1,cond_false] at hc
  generalize chkB _ _ _ _ _ _ _ _ _ _ _ _ _ _=c at hc
  cases h2:(c != 0) with
  | true=>rw[h2,cond_true] at hc;rw[hc] at h2;simp at h2
  | false=>
   rw[h2,cond_false] at hc
   cases h3:((k:Int)==0) with
   | true=>
    have hk:k=0:=by simpa using h3
    rw[h3,cond_true] at hc
    refine⟨fun _ => ?_,fun h=>by omega⟩
    cases h4:rootB b.1 b.2.1 b.2.2.2.1 b.2.2.2.2.1 b.2.2.2.2.2.2.1.1 b.2.2.2.2.2.2.1.2.1 b.2.2.2.2.2.2.1.2.2.1 b.2.2.2.2.2.2.1.2.2.2 with
    | false=>rw[h4] at hc;cases hc
    | true=>
     unfold rootB at h4
     simp only[Bool.and_eq_true,beq_iff_eq] at h4
     exact⟨h4.1,h4.2.1⟩
   | false=>
    have hk:k≠0:=by simpa using h3
    rw[h3,cond_false] at hc
    refine⟨fun h=>absurd h hk,fun _ => ?_⟩
    cases h4:decide (p≥0) with
    | false=>rw[h4] at hc;cases hc
    | true=>exact of_decide_eq_true h4
theorem getD_take (l:List Int) (d t:Nat) (h:t<d):(l.take d).getD t 0=l.getD t 0:=by
 simp only[List.getD,List.getElem?_take,if_pos h]
theorem tree_step {k:Nat} {s:List Nd×List Int} (h:TreeN k s) {b:Bx} (hc:chkN s.1 b (parN s.2 b.1)=0):TreeN (k+1) (stepN s b k):=by
 obtain⟨hc0,hc1⟩:=chk_more h.len hc
 have hpn:=fun hp=>parN_get (path:=s.2) (d:=b.1) hp (fun t ht=>(h.el t ht).1)
 have hplt:parN s.2 b.1<k:=by
  by_cases hp:0≤parN s.2 b.1
  · obtain⟨h1,h2,h3⟩:=hpn hp
    have:=h.el (b.1-1).toNat (by omega);omega
  · omega
 have hpk:k=0→parN s.2 b.1<0:=fun hk=>by omega
 have hO:=fun j hj=>step_old (s:=s) h.len b j hj
 have hN:=step_new (s:=s) h.len b hplt
 have hparO:∀j:Nat,j<k→parA (stepN s b k).1 j=parA s.1 j:=fun j hj=>(hO j hj).2.1
 have hparN:parA (stepN s b k).1 k=parN s.2 b.1:=hN.2.1
 have hpath:(stepN s b k).2=s.2.take b.1.toNat++[(k:Int)]:=rfl
 have hlp:(s.2.take b.1.toNat).length≤b.1.toNat∧(s.2.take b.1.toNat).length≤s.2.length:=by rw[List.length_take];omega
 generalize hpl:(s.2.take b.1.toNat).length=L at hlp
 have hget:∀t,t<L+1→(stepN s b k).2.getD t 0=if t<L then s.2.getD t 0 else (k:Int):=by
  intro t ht
  rw[hpath]
  by_cases h1:t<L
  · rw[if_pos h1,getD_app _ _ _ _ (by omega),getD_take _ _ _ (by omega)]
  · have:t=L:=by omega
    rw[if_neg h1,this,←hpl,getD_last]
 have hlen:(stepN s b k).2.length=L+1:=by rw[hpath,List.length_append,hpl];rfl
 refine⟨?_,fun t ht => ?_,fun t u htu hu => ?_,fun t ht m hm1 hm2 => ?_,fun j hj => ?_,fun j h0 hj => ?_,fun i hi j => ?_,fun i hi => ?_,fun j hj => ?_,fun j m hmj hj hp => ?_,fun _ => ?_⟩
 · simp only[stepN,ends_len,kidN_len,addN,List.length_append,List.length_singleton,h.len]
 · rw[hget t (by omega)]
   by_cases h1:t<L
   · rw[if_pos h1];have:=h.el t (by omega);omega
   · rw[if_neg h1];omega
 · rw[hget t (by omega),hget u (by omega)]
   by_cases h1:u<L
   · rw[if_pos h1,if_pos (by omega)];exact h.mono t u htu (by omega)
   · rw[if_neg h1,if_pos (by omega)];exact (h.el t (by omega)).2
 · rw[hget t (by omega)] at hm1 ⊢
   by_cases h1:t<L
   · rw[if_pos h1] at hm1 ⊢
     by_cases h2:m<k
     · rw[hparO m h2];exact h.keep t (by omega) m hm1 h2
     · have:m=k:=by omega
       subst this
       rw[hparN]
       obtain⟨q1,q2,q3⟩:=hpn (hc1 (by omega))
       rw[q3]
       rcases Nat.lt_or_ge t (b.1-1).toNat with h3 | h3
       · exact Int.le_of_lt (h.mono t _ h3 (by omega))
       · have:t=(b.1-1).toNat:=by omega
         rw[this];exact Int.le_refl _
   · rw[if_neg h1] at hm1;omega
 · rcases Nat.lt_or_ge j k with h1 | h1
   · rw[hparO j h1];exact h.par_lt j h1
   · have:j=k:=by omega
     subst this;rw[hparN];exact hplt
 · rcases Nat.lt_or_ge j k with h1 | h1
   · rw[hparO j h1];exact h.par_0 j h0 h1
   · have:j=k:=by omega
     subst this;rw[hparN];exact hc1 h0
 · have hmk:∀j:Int,(0<j∧j<((k+1:Nat):Int)∧parA (stepN s b k).1 j.toNat=i)↔(0<j∧j<k∧parA s.1 j.toNat=i)∨(j=k∧0<k∧parN s.2 b.1=i):=by
    intro j
    by_cases h1:j<k
    · by_cases h0:0<j
      · rw[hparO j.toNat (by omega)]
        constructor
        · rintro ⟨q1,q2,q3⟩;exact .inl ⟨q1,h1,q3⟩
        · rintro (⟨q1,q2,q3⟩ | ⟨q1,q2⟩)
          · exact⟨q1,by omega,q3⟩
          · omega
      · constructor
        · rintro ⟨q1,_⟩;omega
        · rintro (⟨q1,_⟩ | ⟨q1,q2,_⟩)
          · omega
          · omega
    · by_cases h2:j=k
      · subst h2
        rw[Int.toNat_natCast,hparN]
        constructor
        · rintro ⟨q1,q2,q3⟩;exact .inr ⟨rfl,by omega,q3⟩
        · rintro (⟨q1,q2,q3⟩ | ⟨q1,q2,q3⟩)
          · omega
          · exact⟨by omega,by omega,q3⟩
      · constructor
        · rintro ⟨q1,q2,q3⟩;omega
        · rintro (⟨q1,q2,q3⟩ | ⟨q1,q2⟩)
          · omega
          · exact absurd q1 h2
   rw[hmk]
   rcases Nat.lt_or_ge i k with h1 | h1
   · rw[(hO i h1).2.2.2]
     by_cases h2:parN s.2 b.1=(i:Int)
     · rw[if_pos h2,List.mem_append,h.mem i h1 j,List.mem_singleton]
       constructor
       · rintro (q | q)
         · exact .inl q
         · exact .inr ⟨q,by omega,h2⟩
       · rintro (q | ⟨q,_⟩)
         · exact .inl q
         · exact .inr q
     · rw[if_neg h2,h.mem i h1 j]
       constructor
       · exact .inl
       · rintro (q | ⟨_,_,q⟩)
         · exact q
         · exact absurd q h2
   · have:i=k:=by omega
     subst this
     rw[hN.2.2.2]
     constructor
     · intro q;simp at q
     · rintro (⟨q1,q2,q3⟩ | ⟨q1,q2,q3⟩)
       · have:=h.par_lt j.toNat (by omega);omega
       · omega
 · rcases Nat.lt_or_ge i k with h1 | h1
   · rw[(hO i h1).2.2.2]
     have hs:=h.sorted i h1
     by_cases h2:parN s.2 b.1=(i:Int)
     · rw[if_pos h2,List.pairwise_append]
       refine⟨hs,by simp,fun x hx y hy => ?_⟩
       have:=(h.mem i h1 x).1 hx
       rw[List.mem_singleton] at hy
       omega
     · rw[if_neg h2];exact hs
   · have:i=k:=by omega
     subst this
     rw[hN.2.2.2];simp
 · rcases Nat.lt_or_ge j k with h1 | h1
   · have hpl:=h.par_lt j h1
     rw[hparO j h1,(hO j h1).2.2.1,h.ct_eq j h1]
     by_cases hp:parA s.1 j<0
     · unfold withinT
       rw[decide_eq_true hp];rfl
     · obtain⟨r1,_,r3,_⟩:=hO (parA s.1 j).toNat (by omega)
       rw[r1,r3]
   · have:j=k:=by omega
     subst this
     rw[hparN,hN.2.2.1]
     by_cases hp:parN s.2 b.1<0
     · unfold withinT
       rw[decide_eq_true hp];rfl
     · obtain⟨r1,_,r3,_⟩:=hO (parN s.2 b.1).toNat (by omega)
       rw[r1,r3]
 · rcases Nat.lt_or_ge j k with h1 | h1
   · rw[hparO j h1] at hp ⊢
     rw[hparO m (by omega)]
     exact h.nest j m hmj h1 hp
   · have:j=k:=by omega
     subst this
     rw[hparN] at hp ⊢
     rw[hparO m hmj]
     obtain⟨q1,q2,q3⟩:=hpn (hc1 (by omega))
     rw[q3] at hp ⊢
     exact h.keep _ (by omega) m hp hmj
 · rcases Nat.eq_zero_or_pos k with h1 | h1
   · subst h1
     rw[hN.1];exact (hc0 rfl).2
   · rw[(hO 0 h1).1];exact h.root h1
theorem build_tree:∀(l:List Bx) (k:Nat) (s:List Nd×List Int) (xs:List Nd),TreeN k s→buildN l k s=some xs→∃path,TreeN (k+l.length) (xs,path)∧∀j,(j<k→(xs.getD j zNd).1=(s.1.getD j zNd).1)∧(k≤j→j<k+l.length→(xs.getD j zNd).1=l.getD (j-k) zBx)
 | [],k,s,xs,h,hb=>by
  simp only[buildN,Option.some.injEq] at hb
  subst hb
  exact⟨s.2,h,fun j=>⟨fun _=>rfl,fun h1 h2=>by simp at h2;omega⟩⟩
 | b::l,k,s,xs,h,hb=>by
  simp only[buildN] at hb
  cases hc:(chkN s.1 b (parN s.2 b.1) != 0) with
  | true=>rw[hc] at hb;cases hb
  | false=>
   rw[hc,cond_false] at hb
   have hc':chkN s.1 b (parN s.2 b.1)=0:=by simpa using hc
   obtain⟨path,h1,h2⟩:=build_tree l (k+1) _ xs (tree_step h hc') hb
   refine⟨path,by rw[List.length_cons,show k+(l.length+1)=k+1+l.length by omega];exact h1,fun j=>⟨fun hj => ?_,fun hj1 hj2 => ?_⟩⟩
   · rw[(h2 j).1 (by omega),(step_old (s:=s) h.len b j hj).1]
   · rcases Nat.lt_or_ge k j with h3 | h3
     · rw[(h2 j).2 (by omega) (by simp at hj2;omega),show j-k=j-(k+1)+1 by omega];rfl
     · have:j=k:=by omega
       subst this
       have hp:parN s.2 b.1<j:=by
        by_cases hp:0≤parN s.2 b.1
        · obtain⟨q1,q2,q3⟩:=parN_get (path:=s.2) (d:=b.1) hp (fun t ht=>(h.el t ht).1)
          have:=h.el (b.1-1).toNat (by omega);omega
        · omega
       rw[(h2 j).1 (by omega),(step_new (s:=s) h.len b hp).1,Nat.sub_self];rfl
theorem tree_nil:TreeN 0 (([]:List Nd),([]:List Int)):=by
 refine⟨rfl,?_,?_,?_,?_,?_,?_,?_,?_,?_,?_⟩<;>intros<;>simp_all<;>omega
theorem tree_of {l:List Bx} {xs:List Nd} (h:buildN l 0 ([],[])=some xs) (hl:0<l.length):xs.length=l.length∧(∀j,j<l.length→(xs.getD j zNd).1=l.getD j zBx)∧TreeI xs.length (fun i=>(ndAt xs i).2.1) (fun i=>openB (ndAt xs i).1.2.1) (fun i=>(ndAt xs i).2.2.2.1) (fun i=>(ndAt xs i).2.2.2.2):=by
 obtain⟨path,t,hb⟩:=build_tree l 0 _ xs tree_nil h
 rw[Nat.zero_add] at t
 have hlen:xs.length=l.length:=t.len
 have hn:∀i:Int,0≤i→i<xs.length→ndAt xs i=xs.getD i.toNat zNd:=fun i h0 h1=>by
  unfold ndAt
  rw[decide_eq_false (by omega:¬i<0),decide_eq_false (by change ¬i≥(xs.length:Int);omega)]
  rfl
 have hc:∀i:Int,0≤i→((i.toNat:Nat):Int)=i:=fun i hi=>by omega
 refine⟨hlen,fun j hj=>(hb j).2 (Nat.zero_le _) (by omega),⟨fun j h0 h1 => ?_,fun j h0 h1 => ?_,fun i j h0 h1 => ?_,fun i h0 h1 => ?_,fun j h0 h1 => ?_,fun j m h0 h1 h2 h3 => ?_,?_⟩⟩
 · simp only[hn j h0 h1]
   have:=t.par_lt j.toNat (by omega)
   rwa [hc j h0] at this
 · simp only[hn j (by omega) h1]
   exact t.par_0 j.toNat (by omega) (by omega)
 · simp only[hn i h0 h1]
   rw[t.mem i.toNat (by omega) j,hc i h0,←hlen]
   constructor
   · rintro ⟨q1,q2,q3⟩
     exact⟨q1,q2,by rw[hn j (by omega) q2];exact q3⟩
   · rintro ⟨q1,q2,q3⟩
     rw[hn j (by omega) q2] at q3
     exact⟨q1,q2,q3⟩
 · simp only[hn i h0 h1]
   exact t.sorted i.toNat (by omega)
 · simp only[hn j (by omega) h1]
   have h2:=t.par_0 j.toNat (by omega) (by omega)
   have h3:=t.par_lt j.toNat (by omega)
   have h4:=t.ct_eq j.toNat (by omega)
   change 0≤(xs.getD j.toNat zNd).2.1 at h2
   change (xs.getD j.toNat zNd).2.1<(j.toNat:Int) at h3
   simp only at h4
   rw[h4]
   have h5:(xs.getD j.toNat zNd).2.1<xs.length:=by omega
   rw[hn _ h2 h5]
   unfold withinT
   rw[decide_eq_false (by omega:¬(xs.getD j.toNat zNd).2.1<0),cond_false]
 · simp only[hn j (by omega) h2,hn m h0 (by omega)] at h3 ⊢
   exact t.nest j.toNat m.toNat (by omega) (by omega) (by rw[hc m h0];exact h3)
 · simp only[hn 0 (by omega) (by omega)]
   have:=t.root (by omega)
   simp only at this
   rw[show (0:Int).toNat=0 from rfl,this]
   rfl
end Go.Proofs.YtkpjcmiijlpcaaaGreat.W
set_option linter.unusedVariables false
set_option linter.unusedSimpArgs false
namespace Go.Proofs.YtkpjcmiijlpcaaaGreat.W
open Go Go.Proofs Go.Proofs.YtkpjcmiijlpcaaaGreat.Aw
abbrev parF (xs:List Nd) (i:Int):Int:=(ndAt xs i).2.1
abbrev opF (xs:List Nd) (i:Int):Bool:=openB (ndAt xs i).1.2.1
abbrev ctF (xs:List Nd) (i:Int):Int:=(ndAt xs i).2.2.2.1
abbrev ksF (xs:List Nd) (i:Int):List Int:=(ndAt xs i).2.2.2.2
abbrev TreeX (xs:List Nd):Prop:=TreeI xs.length (parF xs) (opF xs) (ctF xs) (ksF xs)
theorem ndAt_in {xs:List Nd} {i:Int} (h0:0≤i) (h1:i<(xs.length:Int)):ndAt xs i=xs.getD i.toNat zNd:=by
 unfold ndAt
 rw[decide_eq_false (by omega:¬i<0),decide_eq_false (by change ¬i≥(xs.length:Int);omega)]
 rfl
theorem ndAt_out {xs:List Nd} {i:Int} (h:¬(0≤i∧i<(xs.length:Int))):ndAt xs i=(zBx,-1,-1,-1,[]):=by
 unfold ndAt
 by_cases h0:i<0
 · rw[decide_eq_true h0];rfl
 · rw[decide_eq_false h0,decide_eq_true (by change i≥(xs.length:Int);omega)]
   rfl
theorem op_in {xs:List Nd} {c:Int} (h:opF xs c=true):0≤c∧c<(xs.length:Int):=by
 by_cases hc:0≤c∧c<(xs.length:Int)
 · exact hc
 · unfold opF at h
   rw[ndAt_out hc] at h
   exact absurd h (by decide)
theorem memQ_map (ys:List Nd) (q:List Int):∀k,memQ ys q k=entW ((List.range k).map (evQ ys q))
 | 0=>rfl
 | k+1=>by
  rw[List.range_succ,List.map_append,List.map_singleton]
  have e:entW ((List.range k).map (evQ ys q)++[evQ ys q k])=entW ((List.range k).map (evQ ys q))++entW [evQ ys q k]:=List.filterMap_append
  rw[e,←memQ_map ys q k]
  simp only[memQ]
  cases h:(evQ ys q k).2 with
  | true=>simp[entW,h]
  | false=>simp[entW,h]
theorem range_map (es:List Ev) (g:Nat→Ev) (h:∀y,y<es.length→g y=es.getD y (0,false)):(List.range es.length).map g=es:=by
 apply List.ext_getElem
 · simp
 · intro i h1 h2
   rw[List.getElem_map,List.getElem_range,h i h2,getD_nat' es _ i h2]
theorem ctx_walk {xs:List Nd} (t:TreeX xs) (hn:xs.length≤8192) (c:Int):endQ xs (topQ xs c)∧memL xs c=bif opF xs c then memI xs.length (ctF xs) c else []:=by
 cases ho:opF xs c with
 | false=>
  have e:topQ xs c=[]:=by
   unfold topQ
   rw[show openB (ndAt xs c).1.2.1=false from ho];rfl
  unfold memL endQ cntQ
  rw[e]
  exact⟨rfl,rfl⟩
 | true=>
  obtain⟨h0,h1⟩:=op_in ho
  have e:topQ xs c=ksF xs c:=by
   unfold topQ
   rw[show openB (ndAt xs c).1.2.1=true from ho];rfl
  obtain⟨es,g1,g2,g3,g4⟩:=walk_all t c h0 h1 ho 16384 (by omega)
  have hc:cntQ xs (ksF xs c)=es.length:=g2
  refine⟨?_,?_⟩
  · unfold endQ
    rw[e,hc]
    exact g3
  · unfold memL
    rw[e,hc,memQ_map,range_map es (evQ xs (ksF xs c)) g4,g1]
    rfl
theorem trOk {xs:List Nd} (t:TreeX xs) (hn:xs.length≤8192):TrOk xs:=by
 have hml:∀c,∀i∈memL xs c,0≤i∧i<(xs.length:Int):=by
  intro c i hi
  rw[(ctx_walk t hn c).2] at hi
  cases ho:opF xs c with
  | false=>rw[ho] at hi;simp at hi
  | true=>
   rw[ho,cond_true] at hi
   have:=(memI_mem _ _ _ _).1 hi
   omega
 refine⟨by omega,fun x hx => ?_,fun c=>(ctx_walk t hn c).1,fun c => ?_,hml,fun i h0 h1=>⟨t.par_0 i h0 h1,t.par_lt i (by omega) h1⟩⟩
 · obtain⟨j,hj,rfl⟩:=List.getElem_of_mem hx
   have hnd:ndAt xs (j:Int)=xs[j]:=by rw[ndAt_in (by omega) (by omega),Int.toNat_natCast,getD_nat' xs _ j hj]
   have h2:=sorted_len (ksF xs j) 0 xs.length (fun y hy=>by have:=(t.mem j y (by omega) (by omega)).1 hy;omega) (t.sorted j (by omega) (by omega))
   unfold ksF at h2
   rw[hnd] at h2
   omega
 · have hs:(memL xs c).Pairwise (· < ·):=by
    rw[(ctx_walk t hn c).2]
    cases opF xs c with
    | false=>simp
    | true=>exact memI_sorted _ _ _
   have:=sorted_len (memL xs c) 0 xs.length (fun y hy=>hml c y hy) hs
   omega
theorem trOk_of {l:List Bx} {xs:List Nd} (h:buildN l 0 ([],[])=some xs) (hl:0<l.length) (hn:l.length≤8192):TrOk xs:=by
 obtain⟨h1,_,t⟩:=tree_of h hl
 exact trOk t (by omega)
end Go.Proofs.YtkpjcmiijlpcaaaGreat.W
set_option linter.unusedVariables false
set_option linter.unusedSimpArgs false
namespace Go.Proofs.YtkpjcmiijlpcaaaGreat.W
open Go Go.Proofs Go.Proofs.YtkpjcmiijlpcaaaGreat.Aw
theorem bigR_no (n:Int) (h:bigR n=false) : -268435456≤n∧n≤268435456:=by
 have h:(bif !decide (n>268435456) then decide (n < -268435456) else true)=false:=h
 by_cases h1:n>268435456
 · rw[decide_eq_true h1] at h;cases h
 · rw[decide_eq_false h1] at h
   have:¬n < -268435456:=of_decide_eq_false h
   omega
theorem z33_j17 (a1 a2 a3 a4 a5 a6 a7 a8 a9 a10 a11 a12 a13 a14:Int) (h:c32_j17 a1 a2 a3 a4 a5 a6 a7 a8 a9 a10 a11 a12 a13 a14=0):(0≤a1∧a1≤256):=by
 unfold c32_j17 at h
 try simp only[Bool.cond_eq_ite,Bool.not_eq_true',decide_eq_true_eq,decide_eq_false_iff_not,beq_iff_eq,bne_iff_ne,ne_eq,beq_eq_false_iff_ne,bne_eq_false_iff_eq] at h
 repeat' split at h
 all_goals first | omega | (simp_all;done) | (simp_all;omega)
theorem z33_j16 (a1 a2 a3 a4 a5 a6 a7 a8 a9 a10 a11 a12 a13 a14:Int) (h:c32_j16 a1 a2 a3 a4 a5 a6 a7 a8 a9 a10 a11 a12 a13 a14=0):(0≤a14∧(a2=5→a14=0))∧c32_j17 a1 a2 a3 a4 a5 a6 a7 a8 a9 a10 a11 a12 a13 a14=0:=by
 unfold c32_j16 at h
 generalize c32_j17 a1 a2 a3 a4 a5 a6 a7 a8 a9 a10 a11 a12 a13 a14=x_j17 at *
 try simp only[Bool.cond_eq_ite,Bool.not_eq_true',decide_eq_true_eq,decide_eq_false_iff_not,beq_iff_eq,bne_iff_ne,ne_eq,beq_eq_false_iff_ne,bne_eq_false_iff_eq] at h
 repeat' split at h
 all_goals first | omega | (simp_all;done) | (simp_all;omega)
theorem z33_j15 (a1 a2 a3 a4 a5 a6 a7 a8 a9 a10 a11 a12 a13 a14:Int) (h:c32_j15 a1 a2 a3 a4 a5 a6 a7 a8 a9 a10 a11 a12 a13 a14=0):(0≤a13∧(a2=5→a13=0))∧c32_j16 a1 a2 a3 a4 a5 a6 a7 a8 a9 a10 a11 a12 a13 a14=0:=by
 unfold c32_j15 at h
 generalize c32_j16 a1 a2 a3 a4 a5 a6 a7 a8 a9 a10 a11 a12 a13 a14=x_j16 at *
 try simp only[Bool.cond_eq_ite,Bool.not_eq_true',decide_eq_true_eq,decide_eq_false_iff_not,beq_iff_eq,bne_iff_ne,ne_eq,beq_eq_false_iff_ne,bne_eq_false_iff_eq] at h
 repeat' split at h
 all_goals first | omega | (simp_all;done) | (simp_all;omega)
theorem z33_j14 (a1 a2 a3 a4 a5 a6 a7 a8 a9 a10 a11 a12 a13 a14:Int) (h:c32_j14 a1 a2 a3 a4 a5 a6 a7 a8 a9 a10 a11 a12 a13 a14=0):(0≤a12∧(a2=5→a12=0))∧c32_j15 a1 a2 a3 a4 a5 a6 a7 a8 a9 a10 a11 a12 a13 a14=0:=by
 unfold c32_j14 at h
 generalize c32_j15 a1 a2 a3 a4 a5 a6 a7 a8 a9 a10 a11 a12 a13 a14=x_j15 at *
 try simp only[Bool.cond_eq_ite,Bool.not_eq_true',decide_eq_true_eq,decide_eq_false_iff_not,beq_iff_eq,bne_iff_ne,ne_eq,beq_eq_false_iff_ne,bne_eq_false_iff_eq] at h
 repeat' split at h
 all_goals first | omega | (simp_all;done) | (simp_all;omega)
theorem z33_loop13 (a1 a2 a3 a4 a5 a6 a7 a8 a9 a10 a11 a12 a13 a14:Int) (h:c32_loop13 a1 a2 a3 a4 a5 a6 a7 a8 a9 a10 a11 a12 a13 a14=0):(0≤a11∧(a2=5→a11=0))∧c32_j14 a1 a2 a3 a4 a5 a6 a7 a8 a9 a10 a11 a12 a13 a14=0:=by
 unfold c32_loop13 at h
 generalize c32_j14 a1 a2 a3 a4 a5 a6 a7 a8 a9 a10 a11 a12 a13 a14=x_j14 at *
 try simp only[Bool.cond_eq_ite,Bool.not_eq_true',decide_eq_true_eq,decide_eq_false_iff_not,beq_iff_eq,bne_iff_ne,ne_eq,beq_eq_false_iff_ne,bne_eq_false_iff_eq] at h
 repeat' split at h
 all_goals first | omega | (simp_all;done) | (simp_all;omega)
theorem z33_j12 (a1 a2 a3 a4 a5 a6 a7 a8 a9 a10 a11 a12 a13 a14:Int) (h:c32_j12 a1 a2 a3 a4 a5 a6 a7 a8 a9 a10 a11 a12 a13 a14=0):(True)∧c32_loop13 a1 a2 a3 a4 a5 a6 a7 a8 a9 a10 a11 a12 a13 a14=0:=by
 unfold c32_j12 at h
 generalize c32_loop13 a1 a2 a3 a4 a5 a6 a7 a8 a9 a10 a11 a12 a13 a14=x_loop13 at *
 try simp only[Bool.cond_eq_ite,Bool.not_eq_true',decide_eq_true_eq,decide_eq_false_iff_not,beq_iff_eq,bne_iff_ne,ne_eq,beq_eq_false_iff_ne,bne_eq_false_iff_eq] at h
 repeat' split at h
 all_goals first | omega | (simp_all;done) | (simp_all;omega)
theorem z33_j11 (a1 a2 a3 a4 a5 a6 a7 a8 a9 a10 a11 a12 a13 a14:Int) (h:c32_j11 a1 a2 a3 a4 a5 a6 a7 a8 a9 a10 a11 a12 a13 a14=0):((a2=5→a10=0))∧c32_j12 a1 a2 a3 a4 a5 a6 a7 a8 a9 a10 a11 a12 a13 a14=0:=by
 unfold c32_j11 at h
 generalize c32_j12 a1 a2 a3 a4 a5 a6 a7 a8 a9 a10 a11 a12 a13 a14=x_j12 at *
 try simp only[Bool.cond_eq_ite,Bool.not_eq_true',decide_eq_true_eq,decide_eq_false_iff_not,beq_iff_eq,bne_iff_ne,ne_eq,beq_eq_false_iff_ne,bne_eq_false_iff_eq] at h
 repeat' split at h
 all_goals first | omega | (simp_all;done) | (simp_all;omega)
theorem z33_j10 (a1 a2 a3 a4 a5 a6 a7 a8 a9 a10 a11 a12 a13 a14:Int) (h:c32_j10 a1 a2 a3 a4 a5 a6 a7 a8 a9 a10 a11 a12 a13 a14=0):((a2=5→a9=0))∧c32_j11 a1 a2 a3 a4 a5 a6 a7 a8 a9 a10 a11 a12 a13 a14=0:=by
 unfold c32_j10 at h
 generalize c32_j11 a1 a2 a3 a4 a5 a6 a7 a8 a9 a10 a11 a12 a13 a14=x_j11 at *
 try simp only[Bool.cond_eq_ite,Bool.not_eq_true',decide_eq_true_eq,decide_eq_false_iff_not,beq_iff_eq,bne_iff_ne,ne_eq,beq_eq_false_iff_ne,bne_eq_false_iff_eq] at h
 repeat' split at h
 all_goals first | omega | (simp_all;done) | (simp_all;omega)
theorem z33_j9 (a1 a2 a3 a4 a5 a6 a7 a8 a9 a10 a11 a12 a13 a14:Int) (h:c32_j9 a1 a2 a3 a4 a5 a6 a7 a8 a9 a10 a11 a12 a13 a14=0):((a2=5→a8=0))∧c32_j10 a1 a2 a3 a4 a5 a6 a7 a8 a9 a10 a11 a12 a13 a14=0:=by
 unfold c32_j9 at h
 generalize c32_j10 a1 a2 a3 a4 a5 a6 a7 a8 a9 a10 a11 a12 a13 a14=x_j10 at *
 try simp only[Bool.cond_eq_ite,Bool.not_eq_true',decide_eq_true_eq,decide_eq_false_iff_not,beq_iff_eq,bne_iff_ne,ne_eq,beq_eq_false_iff_ne,bne_eq_false_iff_eq] at h
 repeat' split at h
 all_goals first | omega | (simp_all;done) | (simp_all;omega)
theorem z33_loop8 (a1 a2 a3 a4 a5 a6 a7 a8 a9 a10 a11 a12 a13 a14:Int) (h:c32_loop8 a1 a2 a3 a4 a5 a6 a7 a8 a9 a10 a11 a12 a13 a14=0):((a2=5→a7=0))∧c32_j9 a1 a2 a3 a4 a5 a6 a7 a8 a9 a10 a11 a12 a13 a14=0:=by
 unfold c32_loop8 at h
 generalize c32_j9 a1 a2 a3 a4 a5 a6 a7 a8 a9 a10 a11 a12 a13 a14=x_j9 at *
 try simp only[Bool.cond_eq_ite,Bool.not_eq_true',decide_eq_true_eq,decide_eq_false_iff_not,beq_iff_eq,bne_iff_ne,ne_eq,beq_eq_false_iff_ne,bne_eq_false_iff_eq] at h
 repeat' split at h
 all_goals first | omega | (simp_all;done) | (simp_all;omega)
theorem z33_j7 (a1 a2 a3 a4 a5 a6 a7 a8 a9 a10 a11 a12 a13 a14:Int) (h:c32_j7 a1 a2 a3 a4 a5 a6 a7 a8 a9 a10 a11 a12 a13 a14=0):(True)∧c32_loop8 a1 a2 a3 a4 a5 a6 a7 a8 a9 a10 a11 a12 a13 a14=0:=by
 unfold c32_j7 at h
 generalize c32_loop8 a1 a2 a3 a4 a5 a6 a7 a8 a9 a10 a11 a12 a13 a14=x_loop8 at *
 try simp only[Bool.cond_eq_ite,Bool.not_eq_true',decide_eq_true_eq,decide_eq_false_iff_not,beq_iff_eq,bne_iff_ne,ne_eq,beq_eq_false_iff_ne,bne_eq_false_iff_eq] at h
 repeat' split at h
 all_goals first | omega | (simp_all;done) | (simp_all;omega)
theorem z33_j6 (a1 a2 a3 a4 a5 a6 a7 a8 a9 a10 a11 a12 a13 a14:Int) (h:c32_j6 a1 a2 a3 a4 a5 a6 a7 a8 a9 a10 a11 a12 a13 a14=0):(a2≠5)∧c32_j7 a1 a2 a3 a4 a5 a6 a7 a8 a9 a10 a11 a12 a13 a14=0:=by
 unfold c32_j6 at h
 generalize c32_j7 a1 a2 a3 a4 a5 a6 a7 a8 a9 a10 a11 a12 a13 a14=x_j7 at *
 try simp only[Bool.cond_eq_ite,Bool.not_eq_true',decide_eq_true_eq,decide_eq_false_iff_not,beq_iff_eq,bne_iff_ne,ne_eq,beq_eq_false_iff_ne,bne_eq_false_iff_eq] at h
 repeat' split at h
 all_goals first | omega | (simp_all;done) | (simp_all;omega)
theorem z33_j18 (a1 a2 a3 a4 a5 a6 a7 a8 a9 a10 a11 a12 a13 a14:Int) (h:c32_j18 a1 a2 a3 a4 a5 a6 a7 a8 a9 a10 a11 a12 a13 a14=0):(True)∧c32_j7 a1 a2 a3 a4 a5 a6 a7 a8 a9 a10 a11 a12 a13 a14=0:=by
 unfold c32_j18 at h
 generalize c32_j7 a1 a2 a3 a4 a5 a6 a7 a8 a9 a10 a11 a12 a13 a14=x_j7 at *
 try simp only[Bool.cond_eq_ite,Bool.not_eq_true',decide_eq_true_eq,decide_eq_false_iff_not,beq_iff_eq,bne_iff_ne,ne_eq,beq_eq_false_iff_ne,bne_eq_false_iff_eq] at h
 repeat' split at h
 all_goals first | omega | (simp_all;done) | (simp_all;omega)
theorem z33_j5 (a1 a2 a3 a4 a5 a6 a7 a8 a9 a10 a11 a12 a13 a14:Int) (h:c32_j5 a1 a2 a3 a4 a5 a6 a7 a8 a9 a10 a11 a12 a13 a14=0):(-1≤a5 ∧ -1≤a6∧(a5 = -1→a2≠2∧a2≠5)∧(a6 = -1→a2≠5))∧c32_j7 a1 a2 a3 a4 a5 a6 a7 a8 a9 a10 a11 a12 a13 a14=0:=by
 unfold c32_j5 at h
 have q_j18:=z33_j18 a1 a2 a3 a4 a5 a6 a7 a8 a9 a10 a11 a12 a13 a14
 unfold c32_j19 at h
 have q_j6:=z33_j6 a1 a2 a3 a4 a5 a6 a7 a8 a9 a10 a11 a12 a13 a14
 generalize c32_j18 a1 a2 a3 a4 a5 a6 a7 a8 a9 a10 a11 a12 a13 a14=x_j18 at *
 generalize c32_j6 a1 a2 a3 a4 a5 a6 a7 a8 a9 a10 a11 a12 a13 a14=x_j6 at *
 try simp only[Bool.cond_eq_ite,Bool.not_eq_true',decide_eq_true_eq,decide_eq_false_iff_not,beq_iff_eq,bne_iff_ne,ne_eq,beq_eq_false_iff_ne,bne_eq_false_iff_eq] at h
 repeat' split at h
 all_goals first | omega | (simp_all;done) | (simp_all;omega)
theorem z33_j4 (a1 a2 a3 a4 a5 a6 a7 a8 a9 a10 a11 a12 a13 a14:Int) (h:c32_j4 a1 a2 a3 a4 a5 a6 a7 a8 a9 a10 a11 a12 a13 a14=0):(a4=0)∧c32_j5 a1 a2 a3 a4 a5 a6 a7 a8 a9 a10 a11 a12 a13 a14=0:=by
 unfold c32_j4 at h
 generalize c32_j5 a1 a2 a3 a4 a5 a6 a7 a8 a9 a10 a11 a12 a13 a14=x_j5 at *
 try simp only[Bool.cond_eq_ite,Bool.not_eq_true',decide_eq_true_eq,decide_eq_false_iff_not,beq_iff_eq,bne_iff_ne,ne_eq,beq_eq_false_iff_ne,bne_eq_false_iff_eq] at h
 repeat' split at h
 all_goals first | omega | (simp_all;done) | (simp_all;omega)
theorem z33_j20 (a1 a2 a3 a4 a5 a6 a7 a8 a9 a10 a11 a12 a13 a14:Int) (h:c32_j20 a1 a2 a3 a4 a5 a6 a7 a8 a9 a10 a11 a12 a13 a14=0):(True)∧c32_j5 a1 a2 a3 a4 a5 a6 a7 a8 a9 a10 a11 a12 a13 a14=0:=by
 unfold c32_j20 at h
 generalize c32_j5 a1 a2 a3 a4 a5 a6 a7 a8 a9 a10 a11 a12 a13 a14=x_j5 at *
 try simp only[Bool.cond_eq_ite,Bool.not_eq_true',decide_eq_true_eq,decide_eq_false_iff_not,beq_iff_eq,bne_iff_ne,ne_eq,beq_eq_false_iff_ne,bne_eq_false_iff_eq] at h
 repeat' split at h
 all_goals first | omega | (simp_all;done) | (simp_all;omega)
theorem z33_j3 (a1 a2 a3 a4 a5 a6 a7 a8 a9 a10 a11 a12 a13 a14:Int) (h:c32_j3 a1 a2 a3 a4 a5 a6 a7 a8 a9 a10 a11 a12 a13 a14=0):(0≤a4∧a4≤3∧(a2=5→a4=0))∧c32_j5 a1 a2 a3 a4 a5 a6 a7 a8 a9 a10 a11 a12 a13 a14=0:=by
 unfold c32_j3 at h
 have q_j20:=z33_j20 a1 a2 a3 a4 a5 a6 a7 a8 a9 a10 a11 a12 a13 a14
 unfold c32_j21 at h
 have q_j4:=z33_j4 a1 a2 a3 a4 a5 a6 a7 a8 a9 a10 a11 a12 a13 a14
 generalize c32_j20 a1 a2 a3 a4 a5 a6 a7 a8 a9 a10 a11 a12 a13 a14=x_j20 at *
 generalize c32_j4 a1 a2 a3 a4 a5 a6 a7 a8 a9 a10 a11 a12 a13 a14=x_j4 at *
 try simp only[Bool.cond_eq_ite,Bool.not_eq_true',decide_eq_true_eq,decide_eq_false_iff_not,beq_iff_eq,bne_iff_ne,ne_eq,beq_eq_false_iff_ne,bne_eq_false_iff_eq] at h
 repeat' split at h
 all_goals first | omega | (simp_all;done) | (simp_all;omega)
theorem z33_j2 (a1 a2 a3 a4 a5 a6 a7 a8 a9 a10 a11 a12 a13 a14:Int) (h:c32_j2 a1 a2 a3 a4 a5 a6 a7 a8 a9 a10 a11 a12 a13 a14=0):(a3=0)∧c32_j3 a1 a2 a3 a4 a5 a6 a7 a8 a9 a10 a11 a12 a13 a14=0:=by
 unfold c32_j2 at h
 generalize c32_j3 a1 a2 a3 a4 a5 a6 a7 a8 a9 a10 a11 a12 a13 a14=x_j3 at *
 try simp only[Bool.cond_eq_ite,Bool.not_eq_true',decide_eq_true_eq,decide_eq_false_iff_not,beq_iff_eq,bne_iff_ne,ne_eq,beq_eq_false_iff_ne,bne_eq_false_iff_eq] at h
 repeat' split at h
 all_goals first | omega | (simp_all;done) | (simp_all;omega)
theorem z33_j22 (a1 a2 a3 a4 a5 a6 a7 a8 a9 a10 a11 a12 a13 a14:Int) (h:c32_j22 a1 a2 a3 a4 a5 a6 a7 a8 a9 a10 a11 a12 a13 a14=0):(True)∧c32_j3 a1 a2 a3 a4 a5 a6 a7 a8 a9 a10 a11 a12 a13 a14=0:=by
 unfold c32_j22 at h
 generalize c32_j3 a1 a2 a3 a4 a5 a6 a7 a8 a9 a10 a11 a12 a13 a14=x_j3 at *
 try simp only[Bool.cond_eq_ite,Bool.not_eq_true',decide_eq_true_eq,decide_eq_false_iff_not,beq_iff_eq,bne_iff_ne,ne_eq,beq_eq_false_iff_ne,bne_eq_false_iff_eq] at h
 repeat' split at h
 all_goals first | omega | (simp_all;done) | (simp_all;omega)
structure OkBx (a1 a2 a3 a4 a5 a6 a7 a8 a9 a10 a11 a12 a13 a14:Int):Prop where
 k:1≤a2∧a2≤5
 big:∀x∈[a5,a6,a7,a8,a9,a10,a11,a12,a13,a14],-268435456≤x∧x≤268435456
 side:(a2=2→a3=1∨a3=2)∧(a2≠2→a3=0)
 clear:0≤a4∧a4≤3∧(a2=5→a4=0)
 size : -1≤a5 ∧ -1≤a6∧(a5 = -1→a2≠2∧a2≠5)∧(a6 = -1→a2≠5)
 margin:a2=5→a7=0∧a8=0∧a9=0∧a10=0
 edge:0≤a11∧0≤a12∧0≤a13∧0≤a14∧(a2=5→a11=0∧a12=0∧a13=0∧a14=0)
 depth:0≤a1∧a1≤256
theorem bif_fst {c:Bool} {x:Int} (y:Int) (hy:y≠0) (h:(bif !c then x else y)=0):c=false∧x=0:=by
 cases c with
 | false=>exact⟨rfl,h⟩
 | true=>exact absurd h hy
theorem bif_snd {c:Bool} {x:Int} (y:Int) (hy:y≠0) (h:(bif c then y else x)=0):c=false∧x=0:=by
 cases c with
 | false=>exact⟨rfl,h⟩
 | true=>exact absurd h hy
theorem z33 (a1 a2 a3 a4 a5 a6 a7 a8 a9 a10 a11 a12 a13 a14:Int) (h:c32 a1 a2 a3 a4 a5 a6 a7 a8 a9 a10 a11 a12 a13 a14=0):OkBx a1 a2 a3 a4 a5 a6 a7 a8 a9 a10 a11 a12 a13 a14:=by
 unfold c32 at h
 obtain⟨h1,h⟩:=bif_fst 4 (by decide) h
 obtain⟨h2,h⟩:=bif_snd 4 (by decide) h
 obtain⟨b5,h⟩:=bif_fst 10 (by decide) h
 obtain⟨b6,h⟩:=bif_snd 10 (by decide) h
 unfold c32_loop1 at h
 obtain⟨b7,h⟩:=bif_fst 10 (by decide) h
 obtain⟨b11,h⟩:=bif_snd 10 (by decide) h
 obtain⟨b8,h⟩:=bif_fst 10 (by decide) h
 obtain⟨b12,h⟩:=bif_snd 10 (by decide) h
 obtain⟨b9,h⟩:=bif_fst 10 (by decide) h
 obtain⟨b13,h⟩:=bif_snd 10 (by decide) h
 obtain⟨b10,h⟩:=bif_fst 10 (by decide) h
 obtain⟨b14,h⟩:=bif_snd 10 (by decide) h
 rw[blk_eq] at b5 b6 b7 b8 b9 b10 b11 b12 b13 b14
 have q2:=z33_j2 a1 a2 a3 a4 a5 a6 a7 a8 a9 a10 a11 a12 a13 a14
 have q22:=z33_j22 a1 a2 a3 a4 a5 a6 a7 a8 a9 a10 a11 a12 a13 a14
 unfold c32_j23 at h
 have hs:((a2=2→a3=1∨a3=2)∧(a2≠2→a3=0))∧c32_j3 a1 a2 a3 a4 a5 a6 a7 a8 a9 a10 a11 a12 a13 a14=0:=by
  generalize c32_j2 a1 a2 a3 a4 a5 a6 a7 a8 a9 a10 a11 a12 a13 a14=x2 at *
  generalize c32_j22 a1 a2 a3 a4 a5 a6 a7 a8 a9 a10 a11 a12 a13 a14=x22 at *
  generalize c32_j3 a1 a2 a3 a4 a5 a6 a7 a8 a9 a10 a11 a12 a13 a14=x3 at *
  clear b5 b6 b7 b8 b9 b10 b11 b12 b13 b14
  simp only[Bool.cond_eq_ite,Bool.not_eq_true',decide_eq_true_eq,decide_eq_false_iff_not,beq_iff_eq,bne_iff_ne,ne_eq,beq_eq_false_iff_ne,bne_eq_false_iff_eq] at h
  repeat' split at h
  all_goals first | omega | (simp_all;done) | (simp_all;omega)
 have h3:=z33_j3 _ _ _ _ _ _ _ _ _ _ _ _ _ _ hs.2
 have h5:=z33_j5 _ _ _ _ _ _ _ _ _ _ _ _ _ _ h3.2
 have h7:=z33_j7 _ _ _ _ _ _ _ _ _ _ _ _ _ _ h5.2
 have h8:=z33_loop8 _ _ _ _ _ _ _ _ _ _ _ _ _ _ h7.2
 have h9:=z33_j9 _ _ _ _ _ _ _ _ _ _ _ _ _ _ h8.2
 have h10:=z33_j10 _ _ _ _ _ _ _ _ _ _ _ _ _ _ h9.2
 have h11:=z33_j11 _ _ _ _ _ _ _ _ _ _ _ _ _ _ h10.2
 have h12:=z33_j12 _ _ _ _ _ _ _ _ _ _ _ _ _ _ h11.2
 have h13:=z33_loop13 _ _ _ _ _ _ _ _ _ _ _ _ _ _ h12.2
 have h14:=z33_j14 _ _ _ _ _ _ _ _ _ _ _ _ _ _ h13.2
 have h15:=z33_j15 _ _ _ _ _ _ _ _ _ _ _ _ _ _ h14.2
 have h16:=z33_j16 _ _ _ _ _ _ _ _ _ _ _ _ _ _ h15.2
 have h17:=z33_j17 _ _ _ _ _ _ _ _ _ _ _ _ _ _ h16.2
 have g1:=of_decide_eq_false h1
 have g2:=of_decide_eq_false h2
 refine⟨by omega,fun x hx => ?_,hs.1,h3.1,h5.1,fun e=>⟨h8.1 e,h9.1 e,h10.1 e,h11.1 e⟩,⟨h13.1.1,h14.1.1,h15.1.1,h16.1.1,fun e=>⟨h13.1.2 e,h14.1.2 e,h15.1.2 e,h16.1.2 e⟩⟩,h17⟩
 simp only[List.mem_cons,List.not_mem_nil,or_false] at hx
 rcases hx with rfl | rfl | rfl | rfl | rfl | rfl | rfl | rfl | rfl | rfl<;>exact bigR_no _ (by assumption)
theorem idx_none (p:Int→Bool):∀(l:List Int) (i:Int),(∀x∈l,p x=false)→idxFrom p l i = -1
 | [],_,_=>rfl
 | x::l,i,h=>by
  simp only[idxFrom]
  rw[h x (by simp),cond_false]
  exact idx_none p l (i+1) fun y hy=>h y (by simp[hy])
theorem min_pos:∀(l:List Int) (m:Int),0≤m→(∀x∈l,0≤x)→0≤l.foldl min m
 | [],_,h,_=>h
 | x::l,m,h,hl=>by
  rw[List.foldl_cons]
  exact min_pos l _ (by have:=hl x (by simp);omega) fun y hy=>hl y (by simp[hy])
theorem chkB_ok {a1 a2 a3 a4 a5 a6 a7 a8 a9 a10 a11 a12 a13 a14:Int} (h:OkBx a1 a2 a3 a4 a5 a6 a7 a8 a9 a10 a11 a12 a13 a14):chkB a1 a2 a3 a4 a5 a6 a7 a8 a9 a10 a11 a12 a13 a14=0:=by
 obtain⟨hk,hb,hs,hc,hz,hm,he,hd⟩:=h
 have w1:wrB1 a1 a2 a3 a4 a5 a6 a7 a8 a9 a10 a11 a12 a13 a14=false:=by
  unfold wrB1
  rw[decide_eq_false (by omega:¬a2<1),decide_eq_false (by omega:¬a2>5)];rfl
 have w2:wrB2 a1 a2 a3 a4 a5 a6 a7 a8 a9 a10 a11 a12 a13 a14=false:=by
  unfold wrB2
  rw[blk_eq,idx_none bigB _ _ (fun x hx => ?_)]
  · rfl
  · have hx':x∈[a5,a6,a7,a8,a9,a10,a11,a12,a13,a14]:=hx
    have:=hb x hx'
    unfold bigB
    rw[decide_eq_false (by omega:¬x < -268435456),decide_eq_false (by omega:¬x>268435456)];rfl
 have w3:wrB3 a1 a2 a3 a4 a5 a6 a7 a8 a9 a10 a11 a12 a13 a14=false:=by
  unfold wrB3
  by_cases e:a2=2
  · rw[beq_iff_eq.2 e,cond_true]
    have:=hs.1 e
    rw[decide_eq_false (by omega:¬a3<1),decide_eq_false (by omega:¬a3>2)];rfl
  · rw[beq_eq_false_iff_ne.2 e,cond_false]
    rw[bne_eq_false_iff_eq];exact hs.2 e
 have w4:wrB4 a1 a2 a3 a4 a5 a6 a7 a8 a9 a10 a11 a12 a13 a14=false:=by
  unfold wrB4
  rw[decide_eq_false (by omega:¬a4<0),decide_eq_false (by omega:¬a4>3)]
  by_cases e:a2=5
  · rw[beq_iff_eq.2 e,hc.2.2 e];rfl
  · rw[beq_eq_false_iff_ne.2 e];rfl
 have w5:wrB5 a1 a2 a3 a4 a5 a6 a7 a8 a9 a10 a11 a12 a13 a14=false:=by
  unfold wrB5
  by_cases e:a2=2
  · rw[beq_iff_eq.2 e,cond_true]
    rw[decide_eq_false (by omega:¬a5<0),decide_eq_false (by omega:¬a6 < -1)];rfl
  · rw[beq_eq_false_iff_ne.2 e,cond_false]
    by_cases e2:a2=5
    · rw[beq_iff_eq.2 e2,cond_true,decide_eq_false (by omega:¬a5<0),decide_eq_false (by omega:¬a6<0)];rfl
    · rw[beq_eq_false_iff_ne.2 e2,cond_false,decide_eq_false (by omega:¬a5 < -1),decide_eq_false (by omega:¬a6 < -1)];rfl
 have w6:wrB6 a1 a2 a3 a4 a5 a6 a7 a8 a9 a10 a11 a12 a13 a14=false:=by
  unfold wrB6
  by_cases e:a2=5
  · obtain⟨q1,q2,q3,q4⟩:=hm e
    rw[beq_iff_eq.2 e,q1,q2,q3,q4];rfl
  · rw[beq_eq_false_iff_ne.2 e];rfl
 have w7:wrB7 a1 a2 a3 a4 a5 a6 a7 a8 a9 a10 a11 a12 a13 a14=false:=by
  unfold wrB7
  have hmin:¬minF [a11,a12,a13,a14]<0:=by
   have:=min_pos [a12,a13,a14] a11 he.1 (by simp only[List.mem_cons,List.not_mem_nil,or_false];rintro x (rfl | rfl | rfl)<;>omega)
   show ¬ [a12,a13,a14].foldl min a11<0
   omega
  rw[blk_eq,decide_eq_false hmin]
  by_cases e:a2=5
  · obtain⟨q1,q2,q3,q4⟩:=he.2.2.2.2 e
    rw[beq_iff_eq.2 e,q1,q2,q3,q4];rfl
  · rw[beq_eq_false_iff_ne.2 e];rfl
 have w8:wrB8 a1 a2 a3 a4 a5 a6 a7 a8 a9 a10 a11 a12 a13 a14=false:=by
  unfold wrB8
  rw[decide_eq_false (by omega:¬a1<0),decide_eq_false (by omega:¬a1>256)];rfl
 unfold chkB
 rw[w1,w2,w3,w4,w5,w6,w7,w8]
 rfl
theorem fits_eq (k c:Int) (hk:1≤k∧k≤5) (hc:1≤c∧c≤5):fitsB k c=fits4 k c:=by
 have h1:k=1∨k=2∨k=3∨k=4∨k=5:=by omega
 have h2:c=1∨c=2∨c=3∨c=4∨c=5:=by omega
 rcases h1 with rfl | rfl | rfl | rfl | rfl<;>rcases h2 with rfl | rfl | rfl | rfl | rfl<;>decide
end Go.Proofs.YtkpjcmiijlpcaaaGreat.W
