/- An abstract program logic over the model, tenth part: stores, slices, lengths, appends, th. -/
import Derived.Test.YtkpjcmiijlpcaaaDoorAwI
import Derived.Maps.AppendAt
namespace Go.Proofs.YtkpjcmiijlpcaaaDoor.Aw
open Go
section
variable {P:Program} {T:Tab} {env:Env} {M S0:Nat→Prop} {w0:World} {S:Nat→Prop} {β:Nat→Cr} {H:Nat→Ob} {w:World} {o:Oper} {a:Act} {ev:Operand→AV} {nid:Nat} {r:Res}
theorem s_index {t:TypeId} {x i:Operand} (ho:o.op=.index t x i) (c:Cx P T M S0 w0 S β H w a ev nid r) (hs:semOp T env ev H nid o=some r):Goes P M S0 w0 S β H w o a r:=by
 simp only[semOp,ho] at hs
 have hx:=c.hev x
 have hi:=c.hev i
 split at hs
 · rename_i n e cc k j hd ex ei
   split at hs
   · rename_i off m hp
     split at hs
     · rename_i hc
       obtain⟨v,h1,h2⟩:=Option.bind_eq_some_iff.1 hs
       simp only[ok,Option.some.injEq] at h2
       rw[ex] at hx
       rw[ei] at hi
       have hi:=VL.int hi
       obtain⟨cs,e1,hcs⟩:=VL.agg hx
       have hv:=VL.list_of cc cs hc.1 hcs
       simp only[partOf,hd] at hp
       split at hp
       · cases hp
       · rename_i hk
         split at hp
         · simp only[Option.some.injEq,Prod.mk.injEq] at hp
           obtain⟨q1,q2⟩:=hp
           subst q1
           subst q2
           obtain⟨u,hu,hvu⟩:=part_of c.hT (cs:=cs.toArray) (by simpa using hv) h1
           subst h2
           refine goes_same (u:=u) c rfl (s:=Instr.index t (a.eval x) (a.eval i)) (by simp only[execOp,ho]) ?_ hvu
           have h:=(c.hT t (by rw[hd];simp)).desc
           unfold DescOk at h
           rw[hd] at h
           rw[e1,hi]
           simp only[Instr.index,asIntOf,Sem.run_bind,Sem.run_pure,Result.andThen_ok,run_underlying h.1]
           rw[if_pos ⟨hc.2.1,hc.2.2.1⟩]
           simp only[Sem.run_bind,run_sizeOf c.hT (fun h=>hk h),Result.andThen_ok]
           exact hu
         · cases hp
     · cases hs
   · cases hs
 · rename_i b k j hd ex ei
   split at hs
   rotate_left
   · cases hs
   rename_i hty
   simp only[okIf,Option.some.injEq] at hs
   have g0:=c.hgs (0≤j) (by rw[←hs];simp)
   have g1:=c.hgs (j<(b.size:Int)) (by rw[←hs];simp)
   rw[ex] at hx
   rw[ei] at hi
   have hi:=VL.int hi
   obtain⟨u,e1,hl⟩:=hx
   simp only[List.cons.injEq,and_true] at e1
   have hl:u=.string b:=hl
   have h:=(c.hT t (by rw[hd];simp)).desc
   unfold DescOk at h
   rw[hd] at h
   obtain⟨d,h1,_,_,_,h5,_⟩:=h
   have hu:P.underlying t=some .string:=by rw[h1,h5 hty]
   subst hs
   refine goes_same (u:=.int .u8 (strAt b j.toNat)) c rfl (s:=Instr.index t (a.eval x) (a.eval i)) (by simp only[execOp,ho]) ?_ ⟨_,rfl,rfl⟩
   rw[e1,hl,hi,run_index_string w t b k j hu,dif_pos ⟨g0,g1⟩]
   unfold strAt
   rw[dif_pos (show j.toNat<b.size by omega)]
 · cases hs
theorem store_of {t:TypeId} (hT:TabOk P T) {g off:Nat} {cur:Array Value} {e:TypeId} {v:Value} (hg:w.heap[g]? = some (.cells cur e (0,0))) (hk:(T.at_ t).d≠.unk) (hl:v.cells.toList.length=(T.at_ t).size) (ho:off+v.cells.toList.length≤cur.size) (h1:∀u∈v.cells.toList,u.oneCell'=true) :
 (storeVar t ⟨g,off,none⟩ v).run P w=.ok () (w.setRow g (cur.toList.take off++v.cells.toList++cur.toList.drop (off+v.cells.toList.length)).toArray):=by
 have hsz:=run_sizeOf hT hk w
 have hst:=run_storeCells_at P g off e v.cells.toList 0 cur w hg (by simpa using ho) h1
 simp only[storeVar,Sem.run_bind,hsz,Result.andThen_ok]
 rw[if_neg (by rw[←hl];simp)]
 simpa using hst
theorem size_setRow (w:World) (g:Nat) (cs:Array Value):(w.setRow g cs).heap.size=w.heap.size:=by simp[World.setRow]
theorem Cat.set {α:Type} {R:α→List Value→Prop} {n:Nat} (hR:∀x cs,R x cs→cs.length=n):∀(xs:List α) cs (i:Nat) (y:α) (us:List Value),Cat R xs cs→i<xs.length→R y us→Cat R (xs.set i y) (cs.take (i*n)++us++cs.drop (i*n+us.length))
 | [],_,i,_,_,_,hi,_=>by simp at hi
 | x::xs,_,0,y,us,⟨c1,c2,e,h1,h2⟩,_,hy=>by
  have l1:=hR _ _ h1
  have l2:=hR _ _ hy
  refine⟨us,c2,?_,hy,h2⟩
  subst e
  rw[Nat.zero_mul,List.take_zero,List.nil_append,Nat.zero_add,l2,←l1,List.drop_left]
 | x::xs,_,i+1,y,us,⟨c1,c2,e,h1,h2⟩,hi,hy=>by
  have l1:=hR _ _ h1
  have ih:=Cat.set hR xs c2 i y us h2 (by simpa using hi) hy
  refine⟨c1,_,?_,h1,ih⟩
  subst e
  have e1:(i+1)*n=c1.length+i*n:=by rw[Nat.add_mul,l1];omega
  rw[e1,List.take_append,List.drop_append]
  have t1:c1.take (c1.length+i*n)=c1:=List.take_of_length_le (by omega)
  have t2:c1.drop (c1.length+i*n+us.length)=[]:=List.drop_of_length_le (by omega)
  rw[t1,t2,show c1.length+i*n-c1.length=i*n by omega,show c1.length+i*n+us.length-c1.length=i*n+us.length by omega]
  simp
theorem splice (cl us:List Value) (m s N off:Nat) (h1:off+us.length≤s) (h2:m+s≤N) (h3:N≤cl.length) :
 (cl.take (m+off)++us++cl.drop (m+off+us.length)).take N=(cl.take N).take m++((((cl.take N).drop m).take s).take off++us++(((cl.take N).drop m).take s).drop (off+us.length))++(cl.take N).drop (m+s):=by
 apply List.ext_getElem?
 intro j
 simp only[List.getElem?_take,List.getElem?_append,List.length_take,List.length_append,List.getElem?_drop,List.length_drop]
 have e1:min (m+off) cl.length=m+off:=by omega
 have e2:min N cl.length=N:=by omega
 have e3:min m N=m:=by omega
 have e4:min s (N-m)=s:=by omega
 have e5:min off s=off:=by omega
 simp only[e1,e2,e3,e4,e5]
 by_cases c1:j<N
 · by_cases c2:j<m
   · grind
   · by_cases c3:j<m+off
     · grind
     · by_cases c4:j<m+off+us.length
       · grind
       · by_cases c5:j<m+s
         · grind
         · grind
 · grind
theorem splice2 {cur c1 c2 c3 us:List Value} {n m s off:Nat} (h:cur.take n=c1++c2++c3) (h1:c1.length=m) (h2:c2.length=s) (h3:off+us.length≤s) :
 (cur.take (m+off)++us++cur.drop (m+off+us.length)).take n=(c1++(c2.take off++us++c2.drop (off+us.length))++c3).take n:=by
 have hc:cur=(c1++c2++c3)++cur.drop n:=by rw[←h,List.take_append_drop]
 have hn:cur.take (m+off)=c1++c2.take off:=by
  conv=>lhs;rw[hc]
  rw[List.append_assoc,List.append_assoc,List.take_append,h1,List.take_of_length_le (by omega),Nat.add_sub_cancel_left,List.take_append,show off-c2.length=0 by omega]
  simp
 have hd:cur.drop (m+off+us.length)=c2.drop (off+us.length)++c3++cur.drop n:=by
  conv=>lhs;rw[hc]
  rw[List.append_assoc,List.append_assoc,List.drop_append,h1,List.drop_eq_nil_of_le (by omega),show m+off+us.length-m=off+us.length by omega,List.drop_append,show off+us.length-c2.length=0 by omega]
  simp
 rw[hn,hd]
 have e1:c1++c2.take off++us++(c2.drop (off+us.length)++c3++cur.drop n)=(c1++(c2.take off++us++c2.drop (off+us.length))++c3)++cur.drop n:=by simp
 rw[e1]
 have hl:(c1++(c2.take off++us++c2.drop (off+us.length))++c3).length=(c1++c2++c3).length:=by simp;omega
 have hl2:(c1++c2++c3).length=min n cur.length:=by rw[←h,List.length_take]
 by_cases hle:n≤cur.length
 · rw[List.take_append,show n-(c1++(c2.take off++us++c2.drop (off+us.length))++c3).length=0 by omega,List.take_zero,List.append_nil]
 · have hd0:cur.drop n=[]:=List.drop_eq_nil_of_le (by omega)
   rw[hd0,List.append_nil]
theorem s_storeO {k:Nat} {i:Int} {off:Nat} {t:TypeId} {x y:Operand} {e:TypeId} {ty:Ty} {xs:List ty.den} {l:List AV} {z:ty.den} (ho:o.op=.store t x y) (c:Cx P T M S0 w0 S β H w a ev nid r) (hex:ev x=.rptr k i off) (hk:H k=.orow e ty xs) (hc:(ev y).cells? = some l)
 (hsz:(T.at_ t).known=true∧l.length=(T.at_ t).size∧off+l.length≤ty.size) (hz:updD ty (xs.getD i.toNat ty.zero) off l=some z) (hs:r=⟨[],.undef,[(k,.orow e ty (xs.set i.toNat z))]⟩):Goes P M S0 w0 S β H w o a r:=by
 subst hs
 have hx:=c.hev x
 rw[hex] at hx
 obtain⟨v0,ev0,hl⟩:=hx
 simp only[List.cons.injEq,and_true] at ev0
 obtain⟨g,cur,c1,c2,c3,F1,F2,F3,hg,h0,h1,hv,heap,q3,q4,q5,r1,r2,r3,r4,r5,r6,r7⟩:=orow_at c.rel hk hl
 obtain⟨hvl,h1c⟩:=VL.cells_of hc (c.hev y)
 have n1:=VLs.length _ _ hvl
 have hlt:i.toNat<xs.length:=by omega
 have hupd:=updD_of ty _ z c2 F2 off l _ r5 hvl hz (by rw[n1,r4];exact hsz.2.2)
 have hcat:=r7 z _ _ hupd
 have hmul:i.toNat*ty.size+ty.size≤xs.length*ty.size:=by rw[←Nat.succ_mul];exact Nat.mul_le_mul_right _ hlt
 have hcap:xs.length*ty.size≤(β k).cap*ty.size:=Nat.mul_le_mul_right _ q3
 have hst:=store_of c.hT (t:=t) (off:=i.toNat*ty.size+off) (v:=a.eval y) heap (known_d hsz.1) (by rw[n1];exact hsz.2.1) (by rw[n1,q5];have:=hsz.2.2;omega) h1c
 have hce:=splice2 (us:=(a.eval y).cells.toList) r1 r3 r4 (by rw[n1];exact hsz.2.2)
 have e0:cur.toList.length=cur.size:=Array.length_toList
 have hX:(c1++(c2.take off++(a.eval y).cells.toList++c2.drop (off+(a.eval y).cells.toList.length))++c3).length≤xs.length*ty.size:=by
  have h5:=congrArg List.length r1
  rw[List.length_take,List.length_append,List.length_append] at h5
  rw[List.length_append,List.length_append,List.length_append,List.length_append,List.length_take,List.length_drop,n1]
  have:=hsz.2.2
  omega
 obtain⟨hr,hxt⟩:=c.rel.write k g (by rw[hk];rfl) hg (.orow e ty (xs.set i.toNat z)) (by rw[hk];exact .inr ⟨rfl,rfl,_,.inl rfl,by simp⟩) (w':=w.setRow g (cur.toList.take (i.toNat*ty.size+off)++(a.eval y).cells.toList++cur.toList.drop (i.toNat*ty.size+off+(a.eval y).cells.toList.length)).toArray) rfl rfl rfl (size_setRow _ _ _) (fun b hb=>setRow_other w g b _ hb)
  (fun hxt=>.inr ⟨g,_,hg,setRow_heap w g _ _ _ _ heap,by simpa using q3,q4,by
   rw[←q5]
   show (_:List Value).length=_
   rw[List.length_append,List.length_append,List.length_take,List.length_drop,n1];have:=hsz.2.2;omega,by
   rw[List.length_set,hce,List.take_of_length_le hX,r2]
   exact CatO.mono hxt.hS _ _ _ (fun b hb=>setRow_other w g b _ (fun q=>by subst q;exact (List.nodup_cons.1 r6).1 hb)) hcat,by rw[r2];exact r6⟩)
 intro next Q hn
 refine wp_unit (s:=Instr.storeAt t (a.eval x) (a.eval y)) (by simp only[execOp,ho]) ?_ (hn undef _ _ _ hr ⟨_,rfl,trivial⟩ hxt)
 rw[ev0,hv]
 simp only[Instr.storeAt,Instr.sureAddr,Sem.run_bind,Sem.run_pure,Result.andThen_ok]
 exact hst
theorem putOl_get {e':TypeId} {t':Ty} {ys:List t'.den}:∀(t:Ty) (x:t.den) (off:Nat) (y:t.den),putOl e' t' ys t x off=some y→∃zs,getOl t x off=some ⟨e',t',zs⟩:=by
 intro t
 induction t with
 | pair a b iha ihb=>
  intro x off y h
  simp only[putOl] at h
  simp only[getOl]
  cases hc:off.blt a.size<;>rw[hc] at h<;>simp only[cond_false,cond_true] at h ⊢
  · split at h
    · rename_i z hz;exact ihb _ _ _ hz
    · cases h
  · split at h
    · rename_i z hz;exact iha _ _ _ hz
    · cases h
 | ol e t _=>
  intro x off y h
  cases off with
  | succ n=>simp[putOl] at h
  | zero=>
   simp only[putOl] at h
   split at h
   · rename_i hh
     obtain⟨rfl,rfl⟩:=hh
     exact⟨x,rfl⟩
   · cases h
 | int k=>intro x off y h;cases off<;>cases h
 | bool=>intro x off y h;cases off<;>cases h
 | str=>intro x off y h;cases off<;>cases h
 | list e t _=>intro x off y h;cases off<;>cases h
 | unit=>intro x off y h;cases off<;>cases h
theorem s_give {k j:Nat} {i i0:Int} {off off0:Nat} {t:TypeId} {x y:Operand} {e:TypeId} {ty:Ty} {xs:List ty.den} (ho:o.op=.store t x y) (c:Cx P T M S0 w0 S β H w a ev nid r) (hex:ev x=.rptr k i off) (hk:H k=.hrow e ty xs i0 off0) (hey:ev y=.row j)
 (hs:semGive T k t e ty xs i0 off0 i off j (H j)=some r):Goes P M S0 w0 S β H w o a r:=by
 have hx:=c.hev x
 rw[hex] at hx
 obtain⟨v0,ev0,hl⟩:=hx
 simp only[List.cons.injEq,and_true] at ev0
 have hy:=c.hev y
 rw[hey] at hy
 obtain⟨u,eu,hlu⟩:=hy
 simp only[List.cons.injEq,and_true] at eu
 unfold semGive at hs
 split at hs
 rotate_left
 · cases hs
 rename_i e' t' ys hj
 split at hs
 rotate_left
 · cases hs
 rename_i z hput
 split at hs
 rotate_left
 · cases hs
 rename_i hcond
 obtain⟨hsl,hs1,rfl,hjk⟩:=hcond
 have hsl:=isSl_of hsl
 simp only[Option.some.injEq] at hs
 subst hs
 have hi:=c.hgs (i=i0) (by simp)
 subst hi
 simp only[leaf,hj] at hlu
 simp only[leaf,hk] at hl
 obtain⟨g,hg,h0,h1,hv⟩:=hl
 rw[add_lit,Nat.zero_add] at hv
 have hob:=c.rel.ob k
 rw[hk] at hob
 obtain⟨g',cur,q1,heap,q3,q4,q5,_,_,q6,q7,q8⟩:=hob
 rw[hg] at q1
 cases q1
 have hlt:i.toNat<xs.length:=by omega
 obtain⟨c1,c2,c3,F1,F2,F3,r1,r2,r3,r4,r5⟩:=CatO.split xs _ _ i.toNat hlt q7
 have r6:=DRo.length _ _ _ _ r4
 obtain⟨zs,hget⟩:=putOl_get _ _ _ _ hput
 obtain⟨u0,A1,A2,A3,s1,s2,s3,s4,s5⟩:=ol_of ty _ c2 F2 off e' t' zs r4 hget
 have hmul:i.toNat*ty.size+ty.size≤xs.length*ty.size:=by rw[←Nat.succ_mul];exact Nat.mul_le_mul_right _ hlt
 have hcap:xs.length*ty.size≤(β k).cap*ty.size:=Nat.mul_le_mul_right _ q3
 have e0:cur.toList.length=cur.size:=Array.length_toList
 have hpos:i.toNat*ty.size+off<(cur.toList.take (xs.length*ty.size)).length:=by rw[List.length_take];omega
 have hu0:u0=.slice none 0 0:=by
  have:((cur.toList.take (xs.length*ty.size)).set (i.toNat*ty.size+off) (.slice none 0 0))[i.toNat*ty.size+off]? = some u0:=by
   rw[r1,List.append_assoc,List.getElem?_append_right (by omega),r3,Nat.add_sub_cancel_left,List.getElem?_append_left (by omega)]
   exact s1
  rw[List.getElem?_set_self hpos] at this
  exact (Option.some.inj this).symm
 have hA2:A2=[]:=by
  rcases s4 with ⟨_,_,p3⟩ | ⟨gb,cap,cb,p1,_⟩
  · exact p3
  · rw[hu0] at p1;cases p1
 subst hA2
 have hobj:=c.rel.ob j
 rw[hj] at hobj
 have hjl:(H j).live=true:=by rw[hj];rfl
 have hkl:(H k).live=true:=by rw[hk];rfl
 obtain⟨Fj,f1,f2⟩:∃Fj:List Nat,(∀b,b∈Fj→(β j).has b)∧Fj.Nodup∧DRo S w (.ol e' t') ys [u] Fj:=by
  rcases hobj with ⟨p1,p2⟩ | ⟨gb,cb,p1,p2,p3,p4,p5,p6⟩
  · refine⟨[],(fun b hb=>by cases hb),List.nodup_nil,.inl ⟨?_,p2,rfl⟩⟩
    rw[hlu];unfold rowV;rw[p1]
  · refine⟨[gb],fun b hb => ?_,by simp,.inr ⟨gb,(β j).cap,cb,?_,rfl,p2,p3,p4,p5,p6⟩⟩
    · simp only[List.mem_singleton] at hb;subst hb;exact .inl p1
    · rw[hlu,rowV_some p1]
 have hcat:=r5 z _ _ (s5 ys u Fj z f2.2 hput)
 have hFj:∀b,b∈Fj→b≠g∧b∉(β k).more:=fun b hb=>⟨fun q=>hjk (c.rel.dis j k b hjl hkl (f1 b hb) (.inl (by rw[hg,q]))),fun q=>hjk (c.rel.dis j k b hjl hkl (f1 b hb) (.inr q))⟩
 have hmore:(β k).more=F1++(A1++[]++A3)++F3:=by rw[r2,s3]
 have hnd:(g::(F1++(A1++Fj++A3)++F3)).Nodup:=by
  rw[hmore] at q8 hFj
  simp only[List.nodup_cons,List.nodup_append,List.mem_append,List.append_nil,not_or] at q8 hFj ⊢
  grind
 let β':Nat→Cr:=setC β k ⟨some g,(β k).cap,F1++(A1++Fj++A3)++F3⟩
 have hbk:β' k=⟨some g,(β k).cap,F1++(A1++Fj++A3)++F3⟩:=setC_one _ _ _
 have hbo:∀q,q≠k→β' q=β q:=fun q h1=>setC_other _ _ _ _ h1
 have hHk:updH H [(k,.orow e ty (xs.set i.toNat z)),(j,.dead)] k=.orow e ty (xs.set i.toNat z):=by simp[updH,List.lookup]
 have hHj:updH H [(k,.orow e ty (xs.set i.toNat z)),(j,.dead)] j=.dead:=by
  have:(j==k)=false:=by simpa using hjk
  simp[updH,List.lookup,this]
 have hHo:∀q,q≠k→q≠j→updH H [(k,.orow e ty (xs.set i.toNat z)),(j,.dead)] q=H q:=by
  intro q h1 h2
  have e1:(q==k)=false:=by simpa using h1
  have e2:(q==j)=false:=by simpa using h2
  simp[updH,List.lookup,e1,e2]
 have hask:∀b,(β' k).has b→(β k).has b∨(β j).has b:=by
  intro b hb
  rw[hbk] at hb
  rcases hb with hb | hb
  · exact .inl (.inl (by rw[hg];exact hb))
  · simp only[List.mem_append] at hb
    by_cases hf:b∈Fj
    · exact .inr (f1 b hf)
    · refine .inl (.inr ?_)
      rw[hmore]
      simp only[List.mem_append,List.append_nil]
      rcases hb with (hb | (hb | hb) | hb) | hb
      · exact .inl (.inl hb)
      · exact .inl (.inr (.inl hb))
      · exact absurd hb hf
      · exact .inl (.inr (.inr hb))
      · exact .inr hb
 have huo:u.oneCell'=true:=by rw[hlu];exact rowV_one _ _
 have hucells:u.cells.toList=[u]:=by rw[cells_one huo]
 have hst:=store_of c.hT (t:=t) (off:=i.toNat*ty.size+off) (v:=u) heap (by rw[hsl];simp) (by rw[hucells,hs1];rfl) (by rw[hucells];simp only[List.length_cons,List.length_nil];rw[List.length_take] at hpos;omega) (by rw[hucells];simpa using huo)
 rw[hucells] at hst
 have hset:cur.toList.take (i.toNat*ty.size+off)++[u]++cur.toList.drop (i.toNat*ty.size+off+[u].length)=cur.toList.set (i.toNat*ty.size+off) u:=by
  rw[List.set_eq_take_append_cons_drop,if_pos (by rw[List.length_take] at hpos;omega)]
  simp
 rw[hset] at hst
 intro next Q hnx
 obtain⟨z1,z2⟩:=Rel.step c.rel (β':=β') (H':=updH H [(k,.orow e ty (xs.set i.toNat z)),(j,.dead)]) (w':=w.setRow g (cur.toList.set (i.toNat*ty.size+off) u).toArray) (fun b=>b=g) rfl rfl rfl (by rw[size_setRow];exact Nat.le_refl _) (fun b hb=>⟨k,hkl,.inl (by rw[hg,hb])⟩) (fun b _ hb=>setRow_other w g b _ hb)
  (fun q=>by
   by_cases h1:q=k
   · subst h1
     rw[hHk,hbk,hk]
     exact .inr ⟨hg.symm,rfl,_,.inl rfl,by simp⟩
   · by_cases h2:q=j
     · subst h2;rw[hHj,hj];exact .inl rfl
     · rw[hHo q h1 h2,hbo q h1];exact ObExt.refl _ _)
  (fun q b hl' hb=>by
   by_cases h1:q=k
   · subst h1
     rcases hask b hb with hb | hb
     · exact .inl ⟨q,hkl,hb⟩
     · exact .inl ⟨j,hjl,hb⟩
   · by_cases h2:q=j
     · subst h2;rw[hHj] at hl';cases hl'
     · rw[hHo q h1 h2] at hl';rw[hbo q h1] at hb;exact .inl ⟨q,hl',hb⟩)
  (fun q q' b hl1 hl2 hb1 hb2=>by
   have dead:∀q,(updH H [(k,.orow e ty (xs.set i.toNat z)),(j,.dead)] q).live=true→q≠j:=fun q hq e=>by rw[e,hHj] at hq;cases hq
   have far:∀q b,q≠k→q≠j→(H q).live=true→(β q).has b→(β' k).has b→False:=by
    intro q b h1 h2 hl hb hb'
    rcases hask b hb' with hb' | hb'
    · exact h1 (c.rel.dis q k b hl hkl hb hb')
    · exact h2 (c.rel.dis q j b hl hjl hb hb')
   have d1:=dead q hl1
   have d2:=dead q' hl2
   by_cases h1:q=k
   · by_cases h1':q'=k
     · rw[h1,h1']
     · rw[hHo q' h1' d2] at hl2;rw[hbo q' h1'] at hb2;subst h1;exact (far q' b h1' d2 hl2 hb2 hb1).elim
   · rw[hHo q h1 d1] at hl1;rw[hbo q h1] at hb1
     by_cases h1':q'=k
     · subst h1';exact (far q b h1 d1 hl1 hb1 hb2).elim
     · rw[hHo q' h1' d2] at hl2;rw[hbo q' h1'] at hb2;exact c.rel.dis q q' b hl1 hl2 hb1 hb2)
  (fun hx q hl'=>by
   by_cases h1:q=k
   · subst h1
     right
     rw[hHk,hbk]
     refine .inr ⟨g,_,rfl,setRow_heap w g _ _ _ _ heap,by simpa using q3,q4,by
      rw[←q5]
      show (_:List Value).length=_
      rw[List.length_set]
      exact e0,?_,hnd⟩
     have:(cur.toList.set (i.toNat*ty.size+off) u).take ((xs.set i.toNat z).length*ty.size)=c1++c2.set off u++c3:=by
      have e1:(cur.toList.set (i.toNat*ty.size+off) u).take (xs.length*ty.size)=((cur.toList.take (xs.length*ty.size)).set (i.toNat*ty.size+off) (.slice none 0 0)).set (i.toNat*ty.size+off) u:=by
       rw[List.set_set,List.take_set]
      rw[List.length_set,e1,r1,List.append_assoc,List.append_assoc,List.set_append_right _ _ (by omega),r3,Nat.add_sub_cancel_left,List.set_append_left _ _ (by omega)]
     show CatO S _ ty _ ((cur.toList.set (i.toNat*ty.size+off) u).take _) _
     rw[this]
     exact CatO.mono hx.hS _ _ _ (fun b hb=>setRow_other w g b _ (fun e=>by subst e;exact (List.nodup_cons.1 hnd).1 hb)) hcat
   · left
     have h2:q≠j:=fun e=>by rw[e,hHj] at hl';cases hl'
     refine⟨hHo q h1 h2,hbo q h1,fun b hb e => ?_⟩
     rw[hHo q h1 h2] at hl'
     exact h1 (c.rel.dis q k b hl' hkl hb (.inl (by rw[hg,e]))))
 refine wp_unit (s:=Instr.storeAt t (a.eval x) (a.eval y)) (by simp only[execOp,ho]) ?_ (hnx undef _ S β' z1 ⟨_,rfl,trivial⟩ z2)
 rw[ev0,hv,eu]
 simp only[Instr.storeAt,Instr.sureAddr,Sem.run_bind,Sem.run_pure,Result.andThen_ok]
 exact hst
theorem s_store {t:TypeId} {x y:Operand} (ho:o.op=.store t x y) (c:Cx P T M S0 w0 S β H w a ev nid r) (hs:semOp T env ev H nid o=some r):Goes P M S0 w0 S β H w o a r:=by
 simp only[semOp,ho] at hs
 have hx:=c.hev x
 split at hs
 · rename_i k off ex
   rw[ex] at hx
   obtain⟨u,e1,hl⟩:=hx
   cases e1
   split at hs
   · rename_i el cs hk
     split at hs
     · rename_i l hc
       split at hs
       · rename_i hsz
         simp only[Option.some.injEq] at hs
         subst hs
         simp only[leaf,hk] at hl
         obtain⟨g,hg,hv⟩:=hl
         obtain⟨hvl,h1⟩:=VL.cells_of hc (c.hev y)
         have hob:=c.rel.ob k
         rw[hk] at hob
         obtain⟨g',vs,eg,eh,hvs⟩:=hob
         rw[hg] at eg
         cases eg
         have n1:=VLs.length _ _ hvl
         have n2:=VLs.length _ _ hvs
         have hst:=store_of c.hT (t:=t) (off:=off) (v:=a.eval y) eh (known_d hsz.1) (by rw[n1];exact hsz.2.1) (by rw[n1];simp only[List.size_toArray,n2];exact hsz.2.2) h1
         have hput:=VLs.putL cs vs off l _ hvs hvl (by rw[n1,n2];exact hsz.2.2)
         obtain⟨hr,hxt⟩:=c.rel.write k g (by rw[hk];rfl) hg (.cells el (putL cs off l)) (by rw[hk];exact .inr ⟨rfl,_,rfl⟩) (w':=w.setRow g (vs.take off++(a.eval y).cells.toList++vs.drop (off+(a.eval y).cells.toList.length)).toArray) rfl rfl rfl (size_setRow _ _ _) (fun b hb=>setRow_other w g b _ hb)
          (fun hxt=>⟨g,_,hg,setRow_heap w g _ _ _ _ eh,VLs.ext hxt _ _ hput⟩)
         intro next Q hn
         refine wp_unit (s:=Instr.storeAt t (a.eval x) (a.eval y)) (by simp only[execOp,ho]) ?_ (hn undef _ _ _ hr ⟨_,rfl,trivial⟩ hxt)
         rw[hv]
         simp only[Instr.storeAt,Instr.sureAddr,Sem.run_bind,Sem.run_pure,Result.andThen_ok]
         exact hst
       · cases hs
     · cases hs
   · cases hs
 · rename_i k i off ex
   rw[ex] at hx
   obtain⟨u,e1,hl⟩:=hx
   cases e1
   split at hs
   · rename_i el ty xs hk
     split at hs
     · rename_i l hc
       split at hs
       · rename_i hsz
         split at hs
         · rename_i z hz
           simp only[Option.some.injEq] at hs
           subst hs
           simp only[leaf,hk] at hl
           obtain⟨g,hg,h0,hi,hv⟩:=hl
           obtain⟨hvl,h1⟩:=VL.cells_of hc (c.hev y)
           have hob:=c.rel.ob k
           rw[hk] at hob
           rcases hob with ⟨eg,_⟩ | ⟨g',cur,eg,eh,hnc,hcm,hcs,hcat⟩
           · rw[hg] at eg;cases eg
           · rw[hg] at eg
             cases eg
             have hlt:i.toNat<xs.length:=by omega
             have hget:xs[i.toNat]? = some (xs.getD i.toNat ty.zero):=by
              simp only[List.getD]
              rw[List.getElem?_eq_getElem hlt]
              rfl
             obtain⟨es,he,hes⟩:=Cat.get (DR.length ty) xs _ i.toNat _ hcat hget
             have hen:=enc_of (β:=β) (H:=H) ty _ es he
             have n1:=VLs.length _ _ hvl
             have n3:=DR.length ty _ _ he
             have hput:=VLs.putL _ es off l _ hen hvl (by rw[n1,n3];exact hsz.2.2)
             have hdz:=dec1_of hput hz
             have hcat2:=Cat.set (DR.length ty) xs _ i.toNat z _ hcat hlt hdz
             have hmul:i.toNat*ty.size+ty.size≤xs.length*ty.size:=by rw[←Nat.succ_mul];exact Nat.mul_le_mul_right _ hlt
             have hcap:xs.length*ty.size≤(β k).cap*ty.size:=Nat.mul_le_mul_right _ hnc
             have hst:=store_of c.hT (t:=t) (off:=i.toNat*ty.size+off) (v:=a.eval y) eh (known_d hsz.1) (by rw[n1];exact hsz.2.1) (by rw[n1,hcs];have:=hsz.2.2;omega) h1
             have hlen:=Cat.length (DR.length ty) _ _ hcat
             have hes2:es=((cur.toList.take (xs.length*ty.size)).drop (i.toNat*ty.size)).take ty.size:=by
              apply List.ext_getElem?
              intro j
              by_cases hj:j<es.length
              · rw[List.getElem?_eq_getElem hj]
                have:=hes j es[j] (List.getElem?_eq_getElem hj)
                rw[List.getElem?_take,if_pos (by omega),List.getElem?_drop]
                exact this.symm
              · rw[List.getElem?_eq_none (by omega),List.getElem?_eq_none (by rw[List.length_take];omega)]
             have hce:(cur.toList.take (i.toNat*ty.size+off)++(a.eval y).cells.toList++cur.toList.drop (i.toNat*ty.size+off+(a.eval y).cells.toList.length)).take (xs.length*ty.size)=(cur.toList.take (xs.length*ty.size)).take (i.toNat*ty.size)++(es.take off++(a.eval y).cells.toList++es.drop (off+(a.eval y).cells.toList.length))++(cur.toList.take (xs.length*ty.size)).drop (i.toNat*ty.size+(es.take off++(a.eval y).cells.toList++es.drop (off+(a.eval y).cells.toList.length)).length):=by
              have q1:off+(a.eval y).cells.toList.length≤ty.size:=by rw[n1];exact hsz.2.2
              have q2:xs.length*ty.size≤cur.toList.length:=by
               have e:cur.toList.length=cur.size:=Array.length_toList
               rw[e,hcs];exact hcap
              have q3:(es.take off++(a.eval y).cells.toList++es.drop (off+(a.eval y).cells.toList.length)).length=ty.size:=by
               rw[List.length_append,List.length_append,List.length_take,List.length_drop];omega
              rw[q3,hes2]
              exact splice _ _ _ _ _ _ q1 hmul q2
             obtain⟨hr,hxt⟩:=c.rel.write k g (by rw[hk];rfl) hg (.row el ty (xs.set i.toNat z)) (by rw[hk];exact .inr ⟨rfl,_,rfl,by simp⟩) (w':=w.setRow g (cur.toList.take (i.toNat*ty.size+off)++(a.eval y).cells.toList++cur.toList.drop (i.toNat*ty.size+off+(a.eval y).cells.toList.length)).toArray) rfl rfl rfl (size_setRow _ _ _) (fun b hb=>setRow_other w g b _ hb)
              (fun hxt=>.inr ⟨g,_,hg,setRow_heap w g _ _ _ _ eh,by simpa using hnc,hcm,by
               rw[←hcs]
               show (_:List Value).length=_
               have e:cur.toList.length=cur.size:=Array.length_toList
               rw[List.length_append,List.length_append,List.length_take,List.length_drop,n1];have:=hsz.2.2;omega,by
               rw[List.length_set,hce]
               exact Cat.dr_mono hxt.hS hcat2⟩)
             intro next Q hn
             refine wp_unit (s:=Instr.storeAt t (a.eval x) (a.eval y)) (by simp only[execOp,ho]) ?_ (hn undef _ _ _ hr ⟨_,rfl,trivial⟩ hxt)
             rw[hv]
             simp only[Instr.storeAt,Instr.sureAddr,Sem.run_bind,Sem.run_pure,Result.andThen_ok]
             rw[add_lit,Nat.zero_add]
             exact hst
         · cases hs
       · cases hs
     · cases hs
   · rename_i el ty xs hk
     split at hs
     · rename_i l hc
       split at hs
       · rename_i hsz
         split at hs
         · rename_i z hz
           simp only[Option.some.injEq] at hs
           exact s_storeO ho c ex hk hc hsz hz hs.symm
         · cases hs
       · cases hs
     · cases hs
   · rename_i el ty xs i0 off0 hk
     split at hs
     · rename_i j ey
       exact s_give ho c ex hk ey hs
     · cases hs
   · cases hs
 · cases hs
end
end Go.Proofs.YtkpjcmiijlpcaaaDoor.Aw
namespace Go.Proofs.YtkpjcmiijlpcaaaDoor.Aw
open Go
theorem Cat.take {α:Type} {R:α→List Value→Prop} {n:Nat} (hR:∀x cs,R x cs→cs.length=n):∀(xs:List α) cs (i:Nat),Cat R xs cs→Cat R (xs.take i) (cs.take (i*n))
 | [],_,i,h=>by cases h;simp[Cat]
 | _::_,_,0,_=>by simp[Cat]
 | x::xs,_,i+1,⟨c1,c2,e,h1,h2⟩=>by
  have l1:=hR _ _ h1
  refine⟨c1,c2.take (i*n),?_,h1,Cat.take hR xs c2 i h2⟩
  rw[e,List.take_append,List.take_of_length_le (by rw[l1,Nat.add_mul];omega),show (i+1)*n-c1.length=i*n by rw[l1,Nat.add_mul];omega]
theorem Cat.drop {α:Type} {R:α→List Value→Prop} {n:Nat} (hR:∀x cs,R x cs→cs.length=n):∀(xs:List α) cs (i:Nat),Cat R xs cs→Cat R (xs.drop i) (cs.drop (i*n))
 | [],_,i,h=>by cases h;simp[Cat]
 | _::_,_,0,h=>by simpa using h
 | x::xs,_,i+1,⟨c1,c2,e,h1,h2⟩=>by
  have l1:=hR _ _ h1
  have ih:=Cat.drop hR xs c2 i h2
  have t1:c1.drop ((i+1)*n)=[]:=List.drop_of_length_le (by rw[l1,Nat.add_mul];omega)
  rw[e,List.drop_append,t1,show (i+1)*n-c1.length=i*n by rw[l1,Nat.add_mul];omega]
  exact ih
theorem view_of {M S0:Nat→Prop} {w0:World} {S:Nat→Prop} {β:Nat→Cr} {H:Nat→Ob} {w:World} (h:Rel M S0 w0 S β H w) {k lo n:Nat} {e:TypeId} {t:Ty} {xs:List t.den} {u:Value} (hl:leaf S w β H (.view k lo n e t) u) (he:viewOf H k lo n e t=some xs) :
 (H k).live=true∧∃ao c news,u=.slice ao n c∧n=xs.length∧n≤c∧Cat (DR S w t) xs news∧(∀j u',news[j]? = some u'→∃ad,ao=some ad∧(β k).g=some ad.block∧w.cell? (ad.add j)=some u')∧(ao=none→c=0)∧((∃e' cs,H k=.cells e' cs)→c≤n):=by
 unfold viewOf at he
 simp only[leaf] at hl
 split at he
 · rename_i e' t' xs0 hk
   split at he
   rotate_left
   · cases he
   rename_i hc
   obtain⟨rfl,rfl⟩:=hc
   simp only[Option.some.injEq] at he
   subst he
   rw[hk] at hl
   obtain⟨ao,c,hv,h0,h1,h2,h3⟩:=hl
   have hob:=h.ob k
   rw[hk] at hob
   have hlen:((xs0.drop lo).take n).length=n:=by simp;omega
   refine⟨by rw[hk];rfl,?_⟩
   rcases hob with ⟨e2,e3⟩ | ⟨g,cur,e2,e3,e4,e5,e6,e7⟩
   · subst e3
     have:n=0:=by simp at h1;omega
     subst this
     exact⟨ao,c,[],hv,by simp,h0,by simp[Cat],fun j u hj=>by simp at hj,h3,fun⟨_,_,q⟩=>by rw[hk] at q;cases q⟩
   · have hc2:=Cat.take (DR.length t') _ _ n (Cat.drop (DR.length t') _ _ lo e7)
     refine⟨ao,c,_,hv,hlen.symm,h0,hc2,fun j u' hj => ?_,h3,fun⟨_,_,q⟩=>by rw[hk] at q;cases q⟩
     rw[List.getElem?_take] at hj
     split at hj
     rotate_left
     · cases hj
     rename_i hjn
     have hn:0<n:=by
      rcases Nat.eq_zero_or_pos n with e | e
      · subst e;simp at hjn
      · exact e
     obtain⟨g',q1,q2⟩:=h2 hn
     rw[e2] at q1
     cases q1
     refine⟨_,q2,e2,?_⟩
     rw[add_lit,cell_of_row w g _ _ _ _ e3]
     rw[List.getElem?_drop,List.getElem?_take] at hj
     split at hj
     · simpa using hj
     · cases hj
 · rename_i e' cs hk
   split at he
   rotate_left
   · cases he
   rename_i hpos
   rw[hk] at hl
   obtain⟨ao,c,hv,h0,h2,h3,h4⟩:=hl
   have hob:=h.ob k
   rw[hk] at hob
   obtain⟨g,vs,eg,eh,hvs⟩:=hob
   obtain⟨hcat,hlen⟩:=decs_of n _ _ xs (VLs.take (n*t.size) _ _ (VLs.drop lo _ _ hvs)) he
   refine⟨by rw[hk];rfl,ao,c,_,hv,hlen.symm,h0,hcat,fun j u' hj => ?_,h3,fun _=>h4⟩
   rw[List.getElem?_take] at hj
   split at hj
   rotate_left
   · cases hj
   rename_i hjn
   have hn:0<n:=by
    rcases Nat.eq_zero_or_pos n with e | e
    · subst e;simp at hjn
    · exact e
   obtain⟨g',q1,q2⟩:=h2 hn
   rw[eg] at q1
   cases q1
   refine⟨_,q2,eg,?_⟩
   rw[add_lit,cell_of_row w g _ _ _ _ eh]
   rw[List.getElem?_drop] at hj
   simpa using hj
 · cases he
section
variable {P:Program} {T:Tab} {env:Env} {M S0:Nat→Prop} {w0:World} {S:Nat→Prop} {β:Nat→Cr} {H:Nat→Ob} {w:World} {o:Oper} {a:Act} {ev:Operand→AV} {nid:Nat} {r:Res}
theorem Rel.born (h:Rel M S0 w0 S β H w) (nid:Nat) (hn:H nid=.none) (c:Cr) (o:Ob) {w':World}
 (hgr:w.grownBy w' none) (hc:∀g,c.has g→w.heap.size≤g∧g<w'.heap.size)
 (hob:∀β' H',Ext S w β H S w' β' H'→ObR S w' β' H' c o)
 (hd:drW w≤drW w':=by first | exact Nat.le_refl _ | exact Nat.le_succ _ | assumption) :
 Rel M S0 w0 S (setC β nid c) (updH H [(nid,o)]) w'∧Ext S w β H S w' (setC β nid c) (updH H [(nid,o)]):=by
 have hb:∀b,b<w.heap.size→w'.heap[b]? = w.heap[b]? := fun b hb=>hgr.block b hb (by simp)
 obtain⟨h2,hx2⟩:=h.grow hgr.os hgr.tape hgr.output hgr.size hb
 have hx:Ext S w β H S w' (setC β nid c) (updH H [(nid,o)]):=by
  refine⟨hx2.hS,fun k => ?_⟩
  by_cases hk:k=nid
  · subst hk;rw[hn];trivial
  · rw[setC_other _ _ _ _ hk,updH_other _ _ _ _ hk];exact ObExt.refl _ _
 refine⟨⟨h2.fr,h2.s0,h2.sS,?_,?_,?_,h2.gl⟩,hx⟩
 · intro k g hl hg
   by_cases hk:k=nid
   · subst hk
     rw[setC_one] at hg
     obtain⟨q1,q2⟩:=hc g hg
     exact⟨.inr (Nat.le_trans h.fr.size q1),q2,fun hs=>by have:=(h.sS g hs).1;omega⟩
   · rw[setC_other _ _ _ _ hk] at hg
     rw[updH_other _ _ _ _ hk] at hl
     exact h2.own k g hl hg
 · intro k k' g hl hl' hg hg'
   by_cases hk:k=nid
   · by_cases hk':k'=nid
     · rw[hk,hk']
     · subst hk
       rw[setC_one] at hg
       rw[setC_other _ _ _ _ hk'] at hg'
       rw[updH_other _ _ _ _ hk'] at hl'
       have:=(h.own k' _ hl' hg').2.1
       have:=(hc g hg).1
       omega
   · by_cases hk':k'=nid
     · subst hk'
       rw[setC_one] at hg'
       rw[setC_other _ _ _ _ hk] at hg
       rw[updH_other _ _ _ _ hk] at hl
       have:=(h.own k _ hl hg).2.1
       have:=(hc g hg').1
       omega
     · rw[setC_other _ _ _ _ hk] at hg
       rw[updH_other _ _ _ _ hk] at hl
       rw[setC_other _ _ _ _ hk'] at hg'
       rw[updH_other _ _ _ _ hk'] at hl'
       exact h.dis k k' g hl hl' hg hg'
 · intro k
   by_cases hk:k=nid
   · subst hk
     rw[setC_one,updH_one]
     exact hob _ _ hx
   · rw[setC_other _ _ _ _ hk,updH_other _ _ _ _ hk]
     by_cases hl:(H k).live=true
     · exact ObR.ext hx _ _ (fun g hg=>hb g (h.own k g hl hg).2.1) (h.ob k)
     · exact ObR.idle (by simpa using hl)
theorem elems_of (h:Rel M S0 w0 S β H w) {x:AV} {u:Value} {e:TypeId} {t:Ty} {xs:List t.den} (hv:VL S w β H x [u]) (he:elems H x=some ⟨e,t,xs⟩) :
 ∃ao n c news,u=.slice ao n c∧n=xs.length∧n≤c∧Cat (DR S w t) xs news∧∀j u,news[j]? = some u→∃ad,ao=some ad∧w.cell? (ad.add j)=some u:=by
 cases x<;>simp only[elems] at he<;>try cases he
 case nils=>
  obtain⟨v,e1,hl⟩:=hv
  cases e1
  exact⟨none,0,0,[],hl,rfl,Nat.le_refl _,rfl,fun j u hj=>by simp at hj⟩
 case row k=>
  split at he
  · rename_i e' t' xs' hk
    cases he
    obtain⟨v,e1,hl⟩:=hv
    cases e1
    simp only[leaf,hk] at hl
    have hob:=h.ob k
    rw[hk] at hob
    rcases hob with ⟨e2,e3⟩ | ⟨g,cur,e2,e3,e4,e5,e6,e7⟩
    · subst e3
      refine⟨none,0,0,[],?_,rfl,Nat.le_refl _,rfl,fun j u hj=>by simp at hj⟩
      rw[hl];unfold rowV;rw[e2]
    · refine⟨some ⟨g,0,none⟩,xs.length,(β k).cap,_,by rw[hl,rowV_some e2],rfl,e4,e7,fun j u hj=>⟨_,rfl,?_⟩⟩
      rw[add_lit,cell_of_row w g _ _ _ _ e3]
      rw[List.getElem?_take] at hj
      split at hj
      · simpa using hj
      · cases hj
  · cases he
 case list=>
  obtain⟨v,e1,hl⟩:=hv
  cases e1
  obtain⟨ao,n,c,es,e1,e2,e3,e4,e5,_⟩:=hl
  cases e1
  exact⟨ao,n,c,es,rfl,e2,e3,e4,fun j u hj=>by obtain⟨ad,q1,_,q2⟩:=e5 j u hj;exact⟨ad,q1,q2⟩⟩
 case tl=>
  obtain⟨v,e1,hl,_⟩:=hv
  cases e1
  obtain⟨ao,n,c,es,e1,e2,e3,e4,e5,_⟩:=hl
  cases e1
  exact⟨ao,n,c,es,rfl,e2,e3,e4,fun j u hj=>by obtain⟨ad,q1,_,q2⟩:=e5 j u hj;exact⟨ad,q1,q2⟩⟩
 case emp=>
  obtain⟨v,e1,hl⟩:=hv
  cases e1
  obtain⟨ad,c,rfl⟩:=hl
  exact⟨some ad,0,c,[],rfl,rfl,Nat.zero_le _,rfl,fun j u hj=>by simp at hj⟩
 case view k lo n e' t'=>
  obtain⟨ys,h1,h2⟩:=Option.map_eq_some_iff.1 he
  cases h2
  obtain⟨v,e1,hl⟩:=hv
  cases e1
  obtain⟨_,ao,c,news,q1,q2,q3,q4,q5,_⟩:=view_of h hl h1
  exact⟨ao,n,c,news,q1,q2,q3,q4,fun j u hj=>by obtain⟨ad,r1,_,r2⟩:=q5 j u hj;exact⟨ad,r1,r2⟩⟩
theorem owned_of (h:Rel M S0 w0 S β H w) {k:Nat} {e:TypeId} {t:Ty} {xs:List t.den} (hk:H k=.row e t xs) :
 ∃cs,Cat (DR S w t) xs cs∧w.ownsRow 0 e t.size (rowV (β k) xs.length) xs.length cs∧(rowV (β k) xs.length).ownBlock=(β k).g:=by
 have hob:=h.ob k
 rw[hk] at hob
 rcases hob with ⟨e2,e3⟩ | ⟨g,cur,e2,e3,e4,e5,e6,e7⟩
 · subst e3
   have:rowV (β k) ([]:List t.den).length=.slice none 0 0:=by unfold rowV;rw[e2]
   refine⟨[],rfl,?_,?_⟩
   · rw[this];exact World.ownsRow_nil _ _ _ _
   · rw[this,e2];rfl
 · refine⟨_,e7,⟨by rw[Cat.length (DR.length t) _ _ e7],.inr ⟨g,(β k).cap,cur,rowV_some e2,Nat.zero_le _,e3,e4,e5,e6,rfl⟩⟩,?_⟩
   rw[rowV_some e2,e2];rfl
theorem row_of {S':Nat→Prop} {w':World} {β':Nat→Cr} {H':Nat→Ob} {e:TypeId} {t:Ty} {zs:List t.den} {v:Value} {cs:List Value} (hown:w'.ownsRow 0 e t.size v zs.length cs) (hcat:Cat (DR S' w' t) zs cs) :
 ∃c:Cr,v=rowV c zs.length∧ObR S' w' β' H' c (.row e t zs)∧c.g=v.ownBlock∧c.more=[]:=by
 rcases hown.2 with ⟨e1,e2⟩ | ⟨g,cap,cur,e1,_,e3,e4,e5,e6,e7⟩
 · refine⟨⟨none,0,[]⟩,by rw[e1];rfl,.inl ⟨rfl,List.eq_nil_of_length_eq_zero e2⟩,by rw[e1];rfl,rfl⟩
 · subst e1
   refine⟨⟨some g,cap,[]⟩,rfl,.inr ⟨g,cur,rfl,e3,e4,e5,e6,by rw[e7];exact hcat⟩,rfl,rfl⟩
theorem run_append_none {t ty e:TypeId} {i:TypeInfo} (ht:P.underlying t=some (.slice e)) (hi:P.info? e=some i) (base:Option Addr) (n cap c:Nat) (hle:n≤cap) :
 (Builtin.append_ #[t,t] ty #[.slice base n cap,.slice none 0 c]).run P w=.ok (.slice base n cap) w:=by
 cases base<;>simp[Builtin.append_,run_underlying ht,sizeOf,typeInfo,hi,Builtin.lenOf,Builtin.firstCells,hle,storeCells]
theorem append_of (hT:TabOk P T) {ts ty e:TypeId} (hd:(T.at_ ts).d=.slice e) {t:Ty} (hsz:(T.at_ e).size=t.size) (hpos:0<t.size) (hk:(T.at_ e).known=true) (hb:0<(T.at_ e).bytes)
 {v x:Value} {xs zs:List t.den} {cs:List Value} (hown:w.ownsRow 0 e t.size v xs.length cs) (hc1:Cat (DR S w t) xs cs)
 {ao:Option Addr} {n c:Nat} {news:List Value} (hx:x=.slice ao n c) (hn:n=zs.length) (hc2:Cat (DR S w t) zs news) (hnews:∀j u,news[j]? = some u→∃ad,ao=some ad∧w.cell? (ad.add j)=some u)
 (hbytes:(xs.length+zs.length)*(T.at_ e).bytes≤140737488355328) (hS:∀b,S b→b<w.heap.size∧some b≠v.ownBlock) :
 ∃v' w',(Builtin.append_ #[ts,ts] ty #[v,x]).run P w=.ok v' w'∧w.grownBy w' v.ownBlock∧(v'.ownBlock=v.ownBlock∨∃g,v'.ownBlock=some g∧w.heap.size≤g∧g<w'.heap.size) ∧
  ∃cs',w'.ownsRow 0 e t.size v' (xs++zs).length cs'∧Cat (DR S w' t) (xs++zs) cs':=by
 obtain⟨i,h1,h2,h3,z,h4,h5⟩:=(hT e (known_d hk)).info
 have hdesc:=(hT ts (by rw[hd];simp)).desc
 unfold DescOk at hdesc
 rw[hd] at hdesc
 have hl:=Cat.length (DR.length t) _ _ hc2
 have hone:=Cat.mem (p:=fun u=>u.oneCell'=true) (DR.oneCell t) _ _ hc2
 cases ao with
 | none=>
  have hz:zs=[]:=by
   cases hnz:news with
   | nil=>rw[hnz] at hl;exact List.eq_nil_of_length_eq_zero ((Nat.mul_eq_zero.1 hl.symm).resolve_right (by omega))
   | cons u us=>obtain⟨ad,q,_⟩:=hnews 0 u (by rw[hnz];rfl);cases q
  subst hz
  subst hn
  subst hx
  have hv:∃base m cap,v=.slice base m cap∧m≤cap:=by
   rcases hown.2 with ⟨e1,e2⟩ | ⟨g,cap,cur,e1,_,e3,e4,e5,e6,e7⟩
   · exact⟨_,_,_,e1,Nat.le_refl _⟩
   · exact⟨_,_,_,e1,e4⟩
  obtain⟨base,m,cap,hv,hle⟩:=hv
  refine⟨v,w,?_,⟨rfl,rfl,rfl,Nat.le_refl _,fun _ _ _=>rfl⟩,.inl rfl,cs,by simpa using hown,by simpa using hc1⟩
  rw[hv]
  exact run_append_none hdesc h1 base m cap c hle
 | some ad=>
  have hmax:xs.length+n≤maxLen:=by
   have h6:(xs.length+zs.length)*1≤(xs.length+zs.length)*(T.at_ e).bytes:=Nat.mul_le_mul_left _ hb
   simp only[maxLen]
   omega
  have hzc:z.cells.size=t.size:=by
   have h7:=VLs.length _ _ (h5 S w (fun _=>⟨none,0,[]⟩) (fun _=>.none))
   rw[←Array.length_toList,h7,(hT e (known_d hk)).zl,hsz]
  obtain⟨v',w',r1,r2,r3,r4,r5⟩:=run_append_own_at (P:=P) w 0 ts ty e i z t.size (T.at_ e).bytes hdesc h1 h4 (h2.trans hsz) h3 hzc hpos v xs.length cs hown ad n c news (by rw[hl,hn]) (fun j u hj=>by obtain⟨ad',q1,q2⟩:=hnews j u hj;cases q1;exact q2) hone hmax (by rw[hn];exact hbytes) (Nat.zero_le _)
  subst hx
  refine⟨v',w',r1,r3,?_,cs++news,?_,?_⟩
  · rcases r5 with q | q
    · exact .inl q
    · refine .inr ⟨_,q,Nat.le_refl _,?_⟩
      exact (World.ownsRow.lt r2 _ q).2
  · rw[List.length_append,←hn];exact r2
  · exact Cat.append _ _ _ _ (Cat.dr_mono (fun b hb=>⟨hb,r3.block b (hS b hb).1 (hS b hb).2⟩) hc1) (Cat.dr_mono (fun b hb=>⟨hb,r3.block b (hS b hb).1 (hS b hb).2⟩) hc2)
theorem ownedP_of (h:Rel M S0 w0 S β H w) {k:Nat} {e:TypeId} {xs:List AV} (hk:H k=.prow e xs) :
 ∃cs,VLs S w β H xs cs∧w.ownsRow 0 e 1 (rowV (β k) xs.length) xs.length cs∧(rowV (β k) xs.length).ownBlock=(β k).g ∧
  ∃ao c,rowV (β k) xs.length=.slice ao xs.length c∧∀j u,cs[j]? = some u→∃ad,ao=some ad∧w.cell? (ad.add j)=some u:=by
 have hob:=h.ob k
 rw[hk] at hob
 rcases hob with ⟨e2,e3⟩ | ⟨g,cur,e2,e3,e4,e5,e6,e7⟩
 · subst e3
   have:rowV (β k) ([]:List AV).length=.slice none 0 0:=by unfold rowV;rw[e2]
   refine⟨[],rfl,?_,?_,none,0,this,fun j u hj=>by simp at hj⟩
   · rw[this];exact World.ownsRow_nil _ _ _ _
   · rw[this,e2];rfl
 · refine⟨_,e7,⟨by rw[VLs.length _ _ e7,Nat.mul_one],.inr ⟨g,(β k).cap,cur,rowV_some e2,Nat.zero_le _,e3,e4,e5,by rw[e6,Nat.mul_one],by rw[Nat.mul_one]⟩⟩,?_,some ⟨g,0,none⟩,(β k).cap,rowV_some e2,fun j u hj=>⟨_,rfl,?_⟩⟩
   · rw[rowV_some e2,e2];rfl
   · rw[add_lit,cell_of_row w g _ _ _ _ e3]
     rw[List.getElem?_take] at hj
     split at hj
     · simpa using hj
     · cases hj
theorem appendP_of (hT:TabOk P T) {ts ty e:TypeId} (hd:(T.at_ ts).d=.slice e) (hsz:(T.at_ e).size=1) (hk:(T.at_ e).known=true) (hb:0<(T.at_ e).bytes)
 {v x:Value} {m:Nat} {cs:List Value} (hown:w.ownsRow 0 e 1 v m cs)
 {ao:Option Addr} {n c:Nat} {news:List Value} (hx:x=.slice ao n c) (hn:n=news.length) (hone:∀u∈news,u.oneCell'=true) (hnews:∀j u,news[j]? = some u→∃ad,ao=some ad∧w.cell? (ad.add j)=some u)
 (hbytes:(m+n)*(T.at_ e).bytes≤140737488355328) :
 ∃v' w',(Builtin.append_ #[ts,ts] ty #[v,x]).run P w=.ok v' w'∧w.grownBy w' v.ownBlock∧(v'.ownBlock=v.ownBlock∨∃g,v'.ownBlock=some g∧w.heap.size≤g∧g<w'.heap.size) ∧
  w'.ownsRow 0 e 1 v' (m+n) (cs++news):=by
 obtain⟨i,h1,h2,h3,z,h4,h5⟩:=(hT e (known_d hk)).info
 have hdesc:=(hT ts (by rw[hd];simp)).desc
 unfold DescOk at hdesc
 rw[hd] at hdesc
 cases ao with
 | none=>
  have hz:news=[]:=by
   cases hnz:news with
   | nil=>rfl
   | cons u us=>obtain⟨ad,q,_⟩:=hnews 0 u (by rw[hnz];rfl);cases q
  subst hz
  subst hn
  subst hx
  have hv:∃base m cap,v=.slice base m cap∧m≤cap:=by
   rcases hown.2 with ⟨e1,e2⟩ | ⟨g,cap,cur,e1,_,e3,e4,e5,e6,e7⟩
   · exact⟨_,_,_,e1,Nat.le_refl _⟩
   · exact⟨_,_,_,e1,e4⟩
  obtain⟨base,m',cap,hv,hle⟩:=hv
  refine⟨v,w,?_,⟨rfl,rfl,rfl,Nat.le_refl _,fun _ _ _=>rfl⟩,.inl rfl,by simpa using hown⟩
  rw[hv]
  exact run_append_none hdesc h1 base m' cap c hle
 | some ad=>
  have hmax:m+n≤maxLen:=by
   have h6:(m+n)*1≤(m+n)*(T.at_ e).bytes:=Nat.mul_le_mul_left _ hb
   simp only[maxLen]
   omega
  have hzc:z.cells.size=1:=by
   have h7:=VLs.length _ _ (h5 (fun _=>False) w (fun _=>⟨none,0,[]⟩) (fun _=>.none))
   rw[←Array.length_toList,h7,(hT e (known_d hk)).zl,hsz]
  obtain⟨v',w',r1,r2,r3,r4,r5⟩:=run_append_own_at (P:=P) w 0 ts ty e i z 1 (T.at_ e).bytes hdesc h1 h4 (h2.trans hsz) h3 hzc (by decide) v m cs hown ad n c news (by rw[Nat.mul_one,hn]) (fun j u hj=>by obtain⟨ad',q1,q2⟩:=hnews j u hj;cases q1;exact q2) hone hmax hbytes (Nat.zero_le _)
  subst hx
  refine⟨v',w',r1,r3,?_,r2⟩
  rcases r5 with q | q
  · exact .inl q
  · refine .inr ⟨_,q,Nat.le_refl _,?_⟩
    exact (World.ownsRow.lt r2 _ q).2
theorem appendN_of (hT:TabOk P T) {ts ty e:TypeId} (hd:(T.at_ ts).d=.slice e) {sz:Nat} (hsz:(T.at_ e).size=sz) (hpos:0<sz) (hk:(T.at_ e).known=true) (hb:0<(T.at_ e).bytes)
 {v x:Value} {m:Nat} {cs:List Value} (hown:w.ownsRow 0 e sz v m cs)
 {ao:Option Addr} {n c:Nat} {news:List Value} (hx:x=.slice ao n c) (hn:n*sz=news.length) (hone:∀u∈news,u.oneCell'=true) (hnews:∀j u,news[j]? = some u→∃ad,ao=some ad∧w.cell? (ad.add j)=some u)
 (hbytes:(m+n)*(T.at_ e).bytes≤140737488355328) :
 ∃v' w',(Builtin.append_ #[ts,ts] ty #[v,x]).run P w=.ok v' w'∧w.grownBy w' v.ownBlock∧(v'.ownBlock=v.ownBlock∨∃g,v'.ownBlock=some g∧w.heap.size≤g∧g<w'.heap.size) ∧
  w'.ownsRow 0 e sz v' (m+n) (cs++news):=by
 obtain⟨i,h1,h2,h3,z,h4,h5⟩:=(hT e (known_d hk)).info
 have hdesc:=(hT ts (by rw[hd];simp)).desc
 unfold DescOk at hdesc
 rw[hd] at hdesc
 cases ao with
 | none=>
  have hz:news=[]:=by
   cases hnz:news with
   | nil=>rfl
   | cons u us=>obtain⟨ad,q,_⟩:=hnews 0 u (by rw[hnz];rfl);cases q
  subst hz
  have hn:n=0:=(Nat.mul_eq_zero.1 hn).resolve_right (by omega)
  subst hn
  subst hx
  have hv:∃base m cap,v=.slice base m cap∧m≤cap:=by
   rcases hown.2 with ⟨e1,e2⟩ | ⟨g,cap,cur,e1,_,e3,e4,e5,e6,e7⟩
   · exact⟨_,_,_,e1,Nat.le_refl _⟩
   · exact⟨_,_,_,e1,e4⟩
  obtain⟨base,m',cap,hv,hle⟩:=hv
  refine⟨v,w,?_,⟨rfl,rfl,rfl,Nat.le_refl _,fun _ _ _=>rfl⟩,.inl rfl,by simpa using hown⟩
  rw[hv]
  exact run_append_none hdesc h1 base m' cap c hle
 | some ad=>
  have hmax:m+n≤maxLen:=by
   have h6:(m+n)*1≤(m+n)*(T.at_ e).bytes:=Nat.mul_le_mul_left _ hb
   simp only[maxLen]
   omega
  have hzc:z.cells.size=sz:=by
   have h7:=VLs.length _ _ (h5 (fun _=>False) w (fun _=>⟨none,0,[]⟩) (fun _=>.none))
   rw[←Array.length_toList,h7,(hT e (known_d hk)).zl,hsz]
  obtain⟨v',w',r1,r2,r3,r4,r5⟩:=run_append_own_at (P:=P) w 0 ts ty e i z sz (T.at_ e).bytes hdesc h1 h4 (h2.trans hsz) h3 hzc hpos v m cs hown ad n c news hn.symm (fun j u hj=>by obtain⟨ad',q1,q2⟩:=hnews j u hj;cases q1;exact q2) hone hmax hbytes (Nat.zero_le _)
  subst hx
  refine⟨v',w',r1,r3,?_,r2⟩
  rcases r5 with q | q
  · exact .inl q
  · refine .inr ⟨_,q,Nat.le_refl _,?_⟩
    exact (World.ownsRow.lt r2 _ q).2
theorem ownedO_of (h:Rel M S0 w0 S β H w) {k:Nat} {e:TypeId} {t:Ty} {xs:List t.den} (hk:H k=.orow e t xs) :
 ∃cs,CatO S w t xs cs (β k).more∧w.ownsRow 0 e t.size (rowV (β k) xs.length) xs.length cs∧(rowV (β k) xs.length).ownBlock=(β k).g∧(β k).more.Nodup∧(∀g,(β k).g=some g→g∉(β k).more) ∧
  ∃ao c,rowV (β k) xs.length=.slice ao xs.length c∧∀j u,cs[j]? = some u→∃ad,ao=some ad∧w.cell? (ad.add j)=some u:=by
 have hob:=h.ob k
 rw[hk] at hob
 rcases hob with ⟨e2,e3,e4⟩ | ⟨g,cur,e2,e3,e4,e5,e6,e7,e8⟩
 · subst e3
   have:rowV (β k) ([]:List t.den).length=.slice none 0 0:=by unfold rowV;rw[e2]
   refine⟨[],⟨rfl,e4⟩,?_,?_,by rw[e4];exact List.nodup_nil,(fun g hg=>by rw[e2] at hg;cases hg),none,0,this,fun j u hj=>by simp at hj⟩
   · rw[this];exact World.ownsRow_nil _ _ _ _
   · rw[this,e2];rfl
 · refine⟨_,e7,⟨CatO.length _ _ _ e7,.inr ⟨g,(β k).cap,cur,rowV_some e2,Nat.zero_le _,e3,e4,e5,e6,rfl⟩⟩,?_,(List.nodup_cons.1 e8).2,(fun g' hg' => ?_),some ⟨g,0,none⟩,(β k).cap,rowV_some e2,fun j u hj=>⟨_,rfl,?_⟩⟩
   · rw[rowV_some e2,e2];rfl
   · rw[e2] at hg';cases hg';exact (List.nodup_cons.1 e8).1
   · rw[add_lit,cell_of_row w g _ _ _ _ e3]
     rw[List.getElem?_take] at hj
     split at hj
     · simpa using hj
     · cases hj
end
end Go.Proofs.YtkpjcmiijlpcaaaDoor.Aw
