/- The functions of layer 7 (walk), and what they come to: a context's walk, and its members. -/
import Derived.Test.YtkpjcmiijlpcaaaGreatEa
import Derived.Test.YtkpjcmiijlpcaaaGreatAwAF
import Derived.Test.YtkpjcmiijlpcaaaGreatAwAH
import Derived.Test.YtkpjcmiijlpcaaaGreatFd
import Derived.KernelRfl
set_option linter.unusedVariables false
set_option linter.unusedSimpArgs false
namespace Go.Proofs.YtkpjcmiijlpcaaaGreat.W
open Go Go.Proofs Go.Proofs.YtkpjcmiijlpcaaaGreat.Aw
noncomputable section
def con103:List AV→List Ob→Option Tells2
 | [.lptr 88 (.list 92 (.pair (.pair (.int .i64) (.pair (.int .i64) (.pair (.int .i64) (.pair (.int .i64) (.pair (.int .i64) (.pair (.int .i64) (.pair (.pair (.int .i64) (.pair (.int .i64) (.pair (.int .i64) (.int .i64)))) (.pair (.int .i64) (.pair (.int .i64) (.pair (.int .i64) (.int .i64))))))))))) (.pair (.int .i64) (.pair (.int .i64) (.pair (.int .i64) (.list 3 (.int .i64))))))) [xs] 0 0,.list 3 (.int .i64) q,.fn (.func 104) .nl (.cons (.ptr 0 0) .nl)],[.cells 27 [.lptr 88 (.list 92 (.pair (.pair (.int .i64) (.pair (.int .i64) (.pair (.int .i64) (.pair (.int .i64) (.pair (.int .i64) (.pair (.int .i64) (.pair (.pair (.int .i64) (.pair (.int .i64) (.pair (.int .i64) (.int .i64)))) (.pair (.int .i64) (.pair (.int .i64) (.pair (.int .i64) (.int .i64))))))))))) (.pair (.int .i64) (.pair (.int .i64) (.pair (.int .i64) (.list 3 (.int .i64))))))) [ys] 0 0]]=>some ⟨[],.fn (.func 107) .nl (.cons (.ptr 1 0) (.cons (.ptr 2 0) (.cons (.ptr 3 0) .nl))),[none],[.cells 27 [.lptr 88 (.list 92 TN) [xs] 0 0],.cells 101 [.fn (.func 104) .nl (.cons (.ptr 0 0) .nl)],.cells 89 [.list 3 (.int .i64) q]]⟩
 | _,_=>none
theorem f103_run (R:AV→List Ob→Prop) (xs:List TN.den) (q:List (Ty.int .i64).den) (ys:List TN.den):fnB tab eJ3 Tryz.f103 (bodyOf Tryz.f103) [.lptr 88 (.list 92 TN) [xs] 0 0,.list 3 (.int .i64) q,.fn (.func 104) .nl (.cons (.ptr 0 0) .nl)] [.cells 27 [.lptr 88 (.list 92 TN) [ys] 0 0]] R=(R (AV.fn (Fn.func 107) AV.nl ((AV.ptr 1 0).cons ((AV.ptr 2 0).cons ((AV.ptr 3 0).cons AV.nl)))) [Ob.cells 27 [AV.lptr 88 (Ty.list 92 TN) [ys] 0 0],Ob.cells 27 [AV.lptr 88 (Ty.list 92 TN) [xs] 0 0],Ob.cells 101 [AV.fn (Fn.func 104) AV.nl ((AV.ptr 0 0).cons AV.nl)],Ob.cells 89 [AV.list 3 KI q]]):=by kernel_rfl
theorem ok103:ConOk2 Tryz.prog (103,con103):=by
 intro args obs t h hp
 change con103 args obs=some t at h
 unfold con103 at h
 split at h
 · rename_i xs q ys
   change List TN.den at xs
   change List (Ty.int .i64).den at q
   change List TN.den at ys
   cases h
   refine fn_ok2 envJ3 tab_ok mixed Tryz.func103 (by kernel_rfl) (by kernel_rfl) ?_
   rw[f103_run]
   try dsimp only
   exact⟨rfl,rfl⟩
 · cases h
def stQ (q:List Int):List Ev:=q.reverse.map fun i=>(i,false)
def cntQ (ys:List Nd) (q:List Int):Nat:=cntW (innW ys) 16384 (stQ q)
def evQ (ys:List Nd) (q:List Int) (i:Nat):Ev:=evW (innW ys) (stQ q) i
def endQ (ys:List Nd) (q:List Int):Prop:=stW (innW ys) (cntQ ys q) (stQ q)=[]
def con107:List AV→List AV→List Ob→Option TellsI
 | [],[.ptr 0 0,.ptr 1 0,.ptr 2 0],[.cells 27 [.lptr 88 (.list 92 (.pair (.pair (.int .i64) (.pair (.int .i64) (.pair (.int .i64) (.pair (.int .i64) (.pair (.int .i64) (.pair (.int .i64) (.pair (.pair (.int .i64) (.pair (.int .i64) (.pair (.int .i64) (.int .i64)))) (.pair (.int .i64) (.pair (.int .i64) (.pair (.int .i64) (.int .i64))))))))))) (.pair (.int .i64) (.pair (.int .i64) (.pair (.int .i64) (.list 3 (.int .i64))))))) [xs] 0 0],.cells 101 [.fn (.func 104) .nl (.cons (.ptr 3 0) .nl)],.cells 89 [.list 3 (.int .i64) q],.cells 27 [.lptr 88 (.list 92 (.pair (.pair (.int .i64) (.pair (.int .i64) (.pair (.int .i64) (.pair (.int .i64) (.pair (.int .i64) (.pair (.int .i64) (.pair (.pair (.int .i64) (.pair (.int .i64) (.pair (.int .i64) (.int .i64)))) (.pair (.int .i64) (.pair (.int .i64) (.pair (.int .i64) (.int .i64))))))))))) (.pair (.int .i64) (.pair (.int .i64) (.pair (.int .i64) (.list 3 (.int .i64))))))) [ys] 0 0]]=>some ⟨[∀x∈(ys:List Nd),x.2.2.2.2.length≤65536,q.length≤65536,endQ ys q],cntQ ys q,fun i=>[.agg (.cons (.int .i64 ((evQ ys q i).1)) (.cons (.bool (evQ ys q i).2) .nl))]⟩
 | _,_,_=>none
theorem f107_run (xs:List TN.den) (q:List (Ty.int .i64).den) (ys:List TN.den) (l:Nat):fnI tab eJ3 Tryz.f107 (bodyOf Tryz.f107) [] [.ptr 0 0,.ptr 1 0,.ptr 2 0] [.cells 27 [.lptr 88 (.list 92 TN) [xs] 0 0],.cells 101 [.fn (.func 104) .nl (.cons (.ptr 3 0) .nl)],.cells 89 [.list 3 (.int .i64) q],.cells 27 [.lptr 88 (.list 92 TN) [ys] 0 0]] l (cntQ ys q) (fun i=>[.agg (.cons (.int .i64 ((evQ ys q i).1)) (.cons (.bool (evQ ys q i).2) .nl))])=(q.length≤65536∧l=l∧true=true∧false=false∧(∀(x:TN.den),x∈ys→List.length x.snd.snd.snd.snd≤65536)∧(List.map (fun i=>(i,false)) q.reverse).length≤65536∧stW (innW ys) (cntW (innW ys) 16384 (List.map (fun i=>(i,false)) q.reverse)) (List.map (fun i=>(i,false)) q.reverse)=[]∧0=0∧cntW (innW ys) 16384 (List.map (fun i=>(i,false)) q.reverse)=cntQ ys q∧((fun i=>[((AV.int .i64 (evW (innW ys) (List.map (fun i=>(i,false)) q.reverse) i).fst).cons ((AV.bool (evW (innW ys) (List.map (fun i=>(i,false)) q.reverse) i).snd).cons AV.nl)).agg])=fun i=>[((AV.int .i64 (evQ ys q i).fst).cons ((AV.bool (evQ ys q i).snd).cons AV.nl)).agg])∧(true=true∧(false=true∨cntW (innW ys) 16384 (List.map (fun i=>(i,false)) q.reverse)=cntQ ys q))∧∀(y:Nat),true=true∧(true=true∨y=cntQ ys q)):=by kernel_rfl
set_option maxRecDepth 100000 in
theorem ok107:ConOk4 Tryz.prog (107,con107):=by
 intro args caps obs t h hp
 change con107 args caps obs=some t at h
 unfold con107 at h
 split at h
 · rename_i xs q ys
   change List TN.den at xs
   change List (Ty.int .i64).den at q
   change List TN.den at ys
   cases h
   refine fn_okI envJ3 tab_ok mixed Tryz.func107 (by kernel_rfl) (by kernel_rfl) ?_
   intro l
   rw[f107_run]
   try dsimp only
   have hk:=hp (∀x∈(ys:List Nd),x.2.2.2.2.length≤65536) (by simp)
   have h0:=hp (q.length≤65536) (by simp)
   have hfin:=hp (endQ ys q) (by simp)
   clear hp
   exact⟨h0,rfl,rfl,rfl,hk,by rw[List.length_map,List.length_reverse];exact h0,hfin,rfl,rfl,rfl,⟨rfl,.inr rfl⟩,fun _=>⟨rfl,.inl rfl⟩⟩
 · cases h
def topQ (xs:List Nd) (c:Int):List Int:=bif openB (ndAt xs c).1.2.1 then (ndAt xs c).2.2.2.2 else []
def consN0:Cons:=consJ3
def twosN0:Cons2:=(103,con103)::twosJ3
def pansN0:Cons3:=pansJ3
def itersN0:Cons4:=itersJ3
abbrev eN0:Env:=envOf4 consN0 twosN0 pansN0 itersN0
theorem allconsN0:∀c∈consN0,ConOk Tryz.prog c:=allconsJ3
theorem alltwosN0:∀c∈twosN0,ConOk2 Tryz.prog c:=all_cons ok103 alltwosJ3
theorem allpansN0:∀c∈pansN0,ConOk3 Tryz.prog c:=allpansJ3
theorem allitersN0:∀c∈itersN0,ConOk4 Tryz.prog c:=allitersJ3
theorem envN0:EnvOk Tryz.prog eN0:=envOf4_ok _ _ _ _ allconsN0 alltwosN0 allpansN0 allitersN0
def con79:List AV→Option Tells
 | [.lptr 88 (.list 92 (.pair (.pair (.int .i64) (.pair (.int .i64) (.pair (.int .i64) (.pair (.int .i64) (.pair (.int .i64) (.pair (.int .i64) (.pair (.pair (.int .i64) (.pair (.int .i64) (.pair (.int .i64) (.int .i64)))) (.pair (.int .i64) (.pair (.int .i64) (.pair (.int .i64) (.int .i64))))))))))) (.pair (.int .i64) (.pair (.int .i64) (.pair (.int .i64) (.list 3 (.int .i64))))))) [xs] 0 0,.int .i64 c]=>some ⟨[(ndAt xs c).2.2.2.2.length≤65536],.fn (.func 107) .nl (.cons (.ptr 0 0) (.cons (.ptr 1 0) (.cons (.ptr 2 0) .nl))),[.cells 27 [.lptr 88 (.list 92 TN) [xs] 0 0],.cells 101 [.fn (.func 104) .nl (.cons (.ptr 3 0) .nl)],.cells 89 [.list 3 (.int .i64) (topQ xs c)],.cells 27 [.lptr 88 (.list 92 TN) [xs] 0 0]]⟩
 | _=>none
set_option maxHeartbeats 2000000 in
theorem f79_run (R:AV→List Ob→Prop) (xs:List TN.den) (c:Int):fnA tab eN0 Tryz.f79 (bodyOf Tryz.f79) [.lptr 88 (.list 92 TN) [xs] 0 0,.int .i64 c] R=(bif blk (openB (ndAt xs c).fst.snd.fst) then (ndAt xs c).snd.snd.snd.snd.length≤65536∧R (AV.fn (Fn.func 107) AV.nl ((AV.ptr 0 0).cons ((AV.ptr 1 0).cons ((AV.ptr 2 0).cons AV.nl)))) [Ob.cells 27 [AV.lptr 88 (Ty.list 92 TN) [xs] 0 0],Ob.cells 101 [AV.fn (Fn.func 104) AV.nl ((AV.ptr 3 0).cons AV.nl)],Ob.cells 89 [AV.list 3 KI (ndAt xs c).snd.snd.snd.snd],Ob.cells 27 [AV.lptr 88 (Ty.list 92 TN) [xs] 0 0]] else R (AV.fn (Fn.func 107) AV.nl ((AV.ptr 0 0).cons ((AV.ptr 1 0).cons ((AV.ptr 2 0).cons AV.nl)))) [Ob.cells 27 [AV.lptr 88 (Ty.list 92 TN) [xs] 0 0],Ob.cells 101 [AV.fn (Fn.func 104) AV.nl ((AV.ptr 3 0).cons AV.nl)],Ob.cells 89 [AV.list 3 KI []],Ob.cells 27 [AV.lptr 88 (Ty.list 92 TN) [xs] 0 0]]):=by kernel_rfl
theorem ok79:ConOk Tryz.prog (79,con79):=by
 intro args t h hp
 change con79 args=some t at h
 unfold con79 at h
 split at h
 · rename_i xs c
   change List TN.den at xs
   cases h
   refine fn_ok envN0 tab_ok mixed Tryz.func79 (by kernel_rfl) (by kernel_rfl) ?_
   rw[f79_run]
   try dsimp only
   have h1:=hp ((ndAt xs c).2.2.2.2.length≤65536) (by simp)
   unfold topQ
   rw[blk_eq]
   refine cond_split (fun h => ?_) (fun h => ?_)
   · rw[h];exact⟨h1,rfl,rfl⟩
   · rw[h];exact⟨rfl,rfl⟩
 · cases h
def consN1:Cons:=(79,con79)::consN0
def twosN1:Cons2:=twosN0
def pansN1:Cons3:=pansN0
def itersN1:Cons4:=(107,con107)::itersN0
abbrev eN1:Env:=envOf4 consN1 twosN1 pansN1 itersN1
theorem allconsN1:∀c∈consN1,ConOk Tryz.prog c:=all_cons ok79 allconsN0
theorem alltwosN1:∀c∈twosN1,ConOk2 Tryz.prog c:=alltwosN0
theorem allpansN1:∀c∈pansN1,ConOk3 Tryz.prog c:=allpansN0
theorem allitersN1:∀c∈itersN1,ConOk4 Tryz.prog c:=all_cons ok107 allitersN0
theorem envN1:EnvOk Tryz.prog eN1:=envOf4_ok _ _ _ _ allconsN1 alltwosN1 allpansN1 allitersN1
def memQ (ys:List Nd) (q:List Int):Nat→List Int
 | 0=>[]
 | n+1=>bif !(evQ ys q n).2 then memQ ys q n++[(evQ ys q n).1] else memQ ys q n
def memL (xs:List Nd) (c:Int):List Int:=memQ xs (topQ xs c) (cntQ xs (topQ xs c))
def con60:List AV→Option Tells
 | [.lptr 88 (.list 92 (.pair (.pair (.int .i64) (.pair (.int .i64) (.pair (.int .i64) (.pair (.int .i64) (.pair (.int .i64) (.pair (.int .i64) (.pair (.pair (.int .i64) (.pair (.int .i64) (.pair (.int .i64) (.int .i64)))) (.pair (.int .i64) (.pair (.int .i64) (.pair (.int .i64) (.int .i64))))))))))) (.pair (.int .i64) (.pair (.int .i64) (.pair (.int .i64) (.list 3 (.int .i64))))))) [xs] 0 0,.int .i64 c]=>some ⟨[∀x∈(xs:List Nd),x.2.2.2.2.length≤65536,endQ xs (topQ xs c)],.row 0,[.row 3 (.int .i64) (memL xs c)]⟩
 | _=>none
def f60_live1:List Nat:=[10,6,5,6,5,5,4]
def f60_head1  (o2:List Int):St:={slots:=List.replicate 4 AV.undef++[AV.row 0,AV.ptr 1 0]++List.replicate 14 AV.undef,obs:=[Ob.row 3 KI [],Ob.cells 89 [AV.row 2],Ob.row 3 KI o2]}
def f60_q1 (R:AV→List Ob→Prop):Ex→St→Prop:=blockA 0 (seqQ tab eN1 (subC [1,1,1] (bodyOf Tryz.f60)) [4] (endA tab Tryz.f60 R))
def f60_run1 (xs:List TN.den) (c:Int):Nat→St→(Ex→St→Prop)→Prop:=fun i t K=>[((AV.int .i64 (evQ xs (topQ xs c) i).fst).cons ((AV.bool (evQ xs (topQ xs c) i).snd).cons AV.nl)).agg].length=[10].length∧codeA tab eN1 (subC [1,1,0,1,0,0] (bodyOf Tryz.f60)) [6,5,6,5,10,5,4] (roundSt [10] [((AV.int .i64 (evQ xs (topQ xs c) i).fst).cons ((AV.bool (evQ xs (topQ xs c) i).snd).cons AV.nl)).agg] t) (seqN tab eN1 (subC [1,1,0,1,0,1] (bodyOf Tryz.f60)) [10,6,5,6,5,5,4] K)
def f60_range1 (R:AV→List Ob→Prop) (xs:List TN.den) (c:Int) (o2:List Int):Prop:=rangeT f60_live1 (f60_run1 xs c) (cntQ xs (topQ xs c)) (f60_head1 o2) (f60_q1 R)
def f60_rhs1 (R:AV→List Ob→Prop) (xs:List TN.den) (c:Int) (J:Nat→St→Prop) (i:Nat) (o2:List Int):Prop:=[((AV.int .i64 (evQ xs (topQ xs c) i).fst).cons ((AV.bool (evQ xs (topQ xs c) i).snd).cons AV.nl)).agg].length=[10].length∧bif !(evQ xs (topQ xs c) i).snd then (o2.length+1)*8≤140737488355328∧J (i+1) (f60_head1 (o2++[(evQ xs (topQ xs c) i).fst])) else J (i+1) (f60_head1 o2)
theorem f60_eq1 (R:AV→List Ob→Prop) (xs:List TN.den) (c:Int) (J:Nat→St→Prop) (i:Nat) (o2:List Int):f60_run1 xs c i (f60_head1 o2) (roundK f60_live1 J (f60_q1 R) i (f60_head1 o2))=f60_rhs1 R xs c J i o2:=by kernel_rfl
def f60_end1 (R:AV→List Ob→Prop) (xs:List TN.den) (c:Int) (o2:List Int):Prop:=R (AV.row 0) [Ob.row 3 KI o2]
theorem f60_eqe1 (R:AV→List Ob→Prop) (xs:List TN.den) (c:Int) (o2:List Int):f60_q1 R Ex.normal (f60_head1 o2)=f60_end1 R xs c o2:=by kernel_rfl
set_option maxHeartbeats 2000000 in
theorem f60_rule1 (R:AV→List Ob→Prop) (xs:List TN.den) (c:Int) (I:Nat→(List Int)→Prop) (o2:List Int) (h0:I 0 o2) (h:∀i,∀(o2:List Int),i<cntQ xs (topQ xs c)→I i o2→f60_rhs1 R xs c (fun n t=>∃(o2:List Int),t=f60_head1  o2∧I n o2) i o2) (hend:∀(o2:List Int),I (cntQ xs (topQ xs c)) o2→f60_end1 R xs c o2):f60_range1 R xs c o2:=
 range_intro (fun n t=>∃(o2:List Int),t=f60_head1  o2∧I n o2) ⟨o2,rfl,h0⟩ (fun i t hi ht=>by obtain⟨o2,rfl,hI⟩:=ht;exact Eq.mpr (f60_eq1 R xs c (fun n t=>∃(o2:List Int),t=f60_head1  o2∧I n o2) i o2) (h i o2 hi hI)) (fun t ht=>by obtain⟨o2,rfl,hI⟩:=ht;exact Eq.mpr (f60_eqe1 R xs c o2) (hend o2 hI))
theorem f60_run (R:AV→List Ob→Prop) (xs:List TN.den) (c:Int):fnA tab eN1 Tryz.f60 (bodyOf Tryz.f60) [.lptr 88 (.list 92 TN) [xs] 0 0,.int .i64 c] R=((ndAt xs c).snd.snd.snd.snd.length≤65536∧(∀(x:TN.den),x∈xs→List.length x.snd.snd.snd.snd≤65536)∧(topQ xs c).length≤65536∧endQ xs (topQ xs c)∧f60_range1 R xs c []):=by kernel_rfl
theorem ok60:ConOk Tryz.prog (60,con60):=by
 intro args t h hp
 change con60 args=some t at h
 unfold con60 at h
 split at h
 · rename_i xs c
   change List TN.den at xs
   cases h
   refine fn_okG envN1 tab_ok mixed Tryz.func60 (by kernel_rfl) (by kernel_rfl) ?_
   rw[f60_run]
   try dsimp only
   have hk:=hp (∀x∈(xs:List Nd),x.2.2.2.2.length≤65536) (by simp)
   have hfin:=hp (endQ xs (topQ xs c)) (by simp)
   clear hp
   have htop:(topQ xs c).length≤65536:=by
    unfold topQ
    cases openB (ndAt xs c).1.2.1 with
    | true=>exact ndAt_kids hk c
    | false=>exact Nat.zero_le _
   refine⟨ndAt_kids hk c,hk,htop,hfin,?_⟩
   have hcnt:cntQ xs (topQ xs c)≤16384:=cntW_le _ _ _
   refine f60_rule1 _ xs c (fun i o=>o=memQ xs (topQ xs c) i∧o.length≤i) [] ⟨rfl,by simp⟩ ?_ ?_
   · rintro i o hi ⟨rfl,hl⟩
     unfold f60_rhs1
     refine⟨rfl,cond_split (fun h => ?_) (fun h => ?_)⟩
     · refine⟨by omega,_,rfl,?_,?_⟩
       · show _=bif _ then _ else _
         rw[h];rfl
       · rw[List.length_append,List.length_singleton];omega
     · refine⟨_,rfl,?_,by omega⟩
       show _=bif _ then _ else _
       rw[h];rfl
   · rintro o ⟨rfl,_⟩
     unfold f60_end1
     exact .refl _ _
 · cases h
end
end Go.Proofs.YtkpjcmiijlpcaaaGreat.W
set_option linter.unusedVariables false
set_option linter.unusedSimpArgs false
namespace Go.Proofs.YtkpjcmiijlpcaaaGreat.W
open Go Go.Proofs Go.Proofs.YtkpjcmiijlpcaaaGreat.Aw
noncomputable section
def consM0:Cons:=(60,con60)::(13,con13)::[]
def twosM0:Cons2:=[]
def pansM0:Cons3:=[]
def itersM0:Cons4:=[]
abbrev eM0:Env:=envOf4 consM0 twosM0 pansM0 itersM0
theorem allconsM0:∀c∈consM0,ConOk Tryz.prog c:=all_cons ok60 (all_cons ok13 all_nil)
theorem alltwosM0:∀c∈twosM0,ConOk2 Tryz.prog c:=all_nil
theorem allpansM0:∀c∈pansM0,ConOk3 Tryz.prog c:=all_nil
theorem allitersM0:∀c∈itersM0,ConOk4 Tryz.prog c:=all_nil
theorem envM0:EnvOk Tryz.prog eM0:=envOf4_ok _ _ _ _ allconsM0 alltwosM0 allpansM0 allitersM0
def delB (xs:List Nd) (at' i:Int):Bool:=bif decide (i≥at') then true else (ndAt xs i).1.2.1 != 2
def con62:List AV→List Ob→Option Tells2
 | [.int .i64 i,.ptr 0 0,.ptr 1 0],[.cells 3 [.int .i64 at'],.cells 27 [.lptr 88 (.list 92 (.pair (.pair (.int .i64) (.pair (.int .i64) (.pair (.int .i64) (.pair (.int .i64) (.pair (.int .i64) (.pair (.int .i64) (.pair (.pair (.int .i64) (.pair (.int .i64) (.pair (.int .i64) (.int .i64)))) (.pair (.int .i64) (.pair (.int .i64) (.pair (.int .i64) (.int .i64))))))))))) (.pair (.int .i64) (.pair (.int .i64) (.pair (.int .i64) (.list 3 (.int .i64))))))) [xs] 0 0]]=>some ⟨[],.bool (blk (delB xs at' i)),[none,none],[]⟩
 | _,_=>none
theorem f62_run (R:AV→List Ob→Prop) (i at':Int) (xs:List TN.den):fnB tab eM0 Tryz.f62 (bodyOf Tryz.f62) [.int .i64 i,.ptr 0 0,.ptr 1 0] [.cells 3 [.int .i64 at'],.cells 27 [.lptr 88 (.list 92 TN) [xs] 0 0]] R=(bif !decide (i≥at') then R (AV.bool ((ndAt xs i).fst.snd.fst != 2)) [Ob.cells 3 [AV.int .i64 at'],Ob.cells 27 [AV.lptr 88 (Ty.list 92 TN) [xs] 0 0]] else R (AV.bool true) [Ob.cells 3 [AV.int .i64 at'],Ob.cells 27 [AV.lptr 88 (Ty.list 92 TN) [xs] 0 0]]):=by kernel_rfl
theorem ok62:ConOk2 Tryz.prog (62,con62):=by
 intro args obs t h hp
 change con62 args obs=some t at h
 unfold con62 at h
 split at h
 · rename_i i at' xs
   change List TN.den at xs
   cases h
   refine fn_ok2 envM0 tab_ok mixed Tryz.func62 (by kernel_rfl) (by kernel_rfl) ?_
   rw[f62_run]
   try dsimp only
   rw[blk_eq]
   unfold delB
   refine ndec_split (fun h => ?_) (fun h => ?_)
   · rw[decide_eq_false h];exact⟨rfl,rfl⟩
   · rw[decide_eq_true h];exact⟨rfl,rfl⟩
 · cases h
def consM1:Cons:=consM0
def twosM1:Cons2:=(62,con62)::twosM0
def pansM1:Cons3:=pansM0
def itersM1:Cons4:=itersM0
abbrev eM1:Env:=envOf4 consM1 twosM1 pansM1 itersM1
theorem allconsM1:∀c∈consM1,ConOk Tryz.prog c:=allconsM0
theorem alltwosM1:∀c∈twosM1,ConOk2 Tryz.prog c:=all_cons ok62 alltwosM0
theorem allpansM1:∀c∈pansM1,ConOk3 Tryz.prog c:=allpansM0
theorem allitersM1:∀c∈itersM1,ConOk4 Tryz.prog c:=allitersM0
theorem envM1:EnvOk Tryz.prog eM1:=envOf4_ok _ _ _ _ allconsM1 alltwosM1 allpansM1 allitersM1
def con80_d:List AV→List Ob→Option Tells2
 | [.row 0,.fn (.func 62) .nl (.cons (.ptr 1 0) (.cons (.ptr 2 0) .nl))],[.row 3 (.int .i64) l,.cells 3 [.int .i64 at'],.cells 27 [.lptr 88 (.list 92 (.pair (.pair (.int .i64) (.pair (.int .i64) (.pair (.int .i64) (.pair (.int .i64) (.pair (.int .i64) (.pair (.int .i64) (.pair (.pair (.int .i64) (.pair (.int .i64) (.pair (.int .i64) (.int .i64)))) (.pair (.int .i64) (.pair (.int .i64) (.pair (.int .i64) (.int .i64))))))))))) (.pair (.int .i64) (.pair (.int .i64) (.pair (.int .i64) (.list 3 (.int .i64))))))) [xs] 0 0]]=>some ⟨[l.length≤65536],.int .i64 (blk (idxFrom (delB xs at') l 0)),[none,none,none],[]⟩
 | _,_=>none
def f80_d_live1:List Nat:=[8,7,8,1,0,8,4]
def f80_d_head1 (l:List KI.den) (at':Int) (xs:List TN.den) (s8:Int):St:={slots:=[AV.row 0,AV.fn (Fn.func 62) AV.nl ((AV.ptr 1 0).cons ((AV.ptr 2 0).cons AV.nl)),AV.undef,AV.undef,AV.int .i64 0,AV.undef,AV.undef,AV.int .i64 (↑l.length:Int),AV.int .i64 s8]++List.replicate 10 AV.undef,obs:=[Ob.row 3 KI l,Ob.cells 3 [AV.int .i64 at'],Ob.cells 27 [AV.lptr 88 (Ty.list 92 TN) [xs] 0 0]],n:=3}
def f80_d_q1 (R:AV→List Ob→Prop):Ex→St→Prop:=blockA 0 (seqQ tab eM1 (subC [1,1] (bodyOf Tryz.f80)) [4] (endA tab Tryz.f80 R))
def f80_d_loop1 (R:AV→List Ob→Prop) (l:List KI.den) (at':Int) (xs:List TN.den) (s8:Int):Prop:=loopT f80_d_live1 (codeA tab eM1 (subC [1,0,1,0,0] (bodyOf Tryz.f80)) f80_d_live1) (f80_d_head1 l at' xs s8) (f80_d_q1 R)
def f80_d_rhs1 (R:AV→List Ob→Prop) (l:List KI.den) (at':Int) (xs:List TN.den) (J:St→Prop) (s8:Int):Prop:=bif decide (s8<(↑l.length:Int)) then 0≤s8∧s8<(↑l.length:Int)∧bif blk (delB xs at' (l.getD s8.toNat 0)) then R (AV.int .i64 s8) [Ob.row 3 KI l,Ob.cells 3 [AV.int .i64 at'],Ob.cells 27 [AV.lptr 88 (Ty.list 92 TN) [xs] 0 0]] else J (f80_d_head1 l at' xs (IntKind.i64.wrap (s8+1))) else R (AV.int .i64 (-1)) [Ob.row 3 KI l,Ob.cells 3 [AV.int .i64 at'],Ob.cells 27 [AV.lptr 88 (Ty.list 92 TN) [xs] 0 0]]
theorem f80_d_eq1 (R:AV→List Ob→Prop) (l:List KI.den) (at':Int) (xs:List TN.den) (J:St→Prop) (s8:Int):codeA tab eM1 (subC [1,0,1,0,0] (bodyOf Tryz.f80)) f80_d_live1 (f80_d_head1 l at' xs s8) (thenA (fun s=>J (St.tidy f80_d_live1 s)) (f80_d_q1 R))=f80_d_rhs1 R l at' xs J s8:=by kernel_rfl
set_option maxHeartbeats 2000000 in
theorem f80_d_rule1 (R:AV→List Ob→Prop) (l:List KI.den) (at':Int) (xs:List TN.den) (I:Nat→(Int)→Prop) (n:Nat) (s8:Int) (h0:I n s8) (h:∀n,∀(s8:Int),I n s8→f80_d_rhs1 R l at' xs (fun t=>∃m,m<n∧∃(s8:Int),t=f80_d_head1 l at' xs s8∧I m s8) s8):f80_d_loop1 R l at' xs s8:=
 loop_intro (fun n t=>∃(s8:Int),t=f80_d_head1 l at' xs s8∧I n s8) n ⟨s8,rfl,h0⟩ (fun n t ht=>by obtain⟨s8,rfl,hI⟩:=ht;exact Eq.mpr (f80_d_eq1 R l at' xs (fun t=>∃m,m<n∧∃(s8:Int),t=f80_d_head1 l at' xs s8∧I m s8) s8) (h n s8 hI))
theorem f80_d_run (R:AV→List Ob→Prop) (l:List (Ty.int .i64).den) (at':Int) (xs:List TN.den):fnB tab eM1 Tryz.f80 (bodyOf Tryz.f80) [.row 0,.fn (.func 62) .nl (.cons (.ptr 1 0) (.cons (.ptr 2 0) .nl))] [.row 3 (.int .i64) l,.cells 3 [.int .i64 at'],.cells 27 [.lptr 88 (.list 92 TN) [xs] 0 0]] R=(f80_d_loop1 R l at' xs 0):=by kernel_rfl
theorem ok80_d:ConOk2 Tryz.prog (80,con80_d):=by
 intro args obs t h hp
 change con80_d args obs=some t at h
 unfold con80_d at h
 split at h
 · rename_i l at' xs
   change List (Ty.int .i64).den at l
   change List TN.den at xs
   cases h
   refine fn_ok2 envM1 tab_ok mixed Tryz.func80 (by kernel_rfl) (by kernel_rfl) ?_
   rw[f80_d_run]
   try dsimp only
   have hx:=hp (l.length≤65536) (by simp)
   clear hp
   rw[blk_eq]
   refine f80_d_rule1 _ l at' xs (fun n i=>∃k:Nat,k≤l.length∧n=l.length-k∧i=k∧idxFrom (delB xs at') l 0=idxFrom (delB xs at') (l.drop k) k) l.length 0 ⟨0,by omega,by simp,rfl,rfl⟩ ?_
   rintro n i ⟨k,hk,rfl,rfl,hi⟩
   unfold f80_d_rhs1
   refine dec_split (fun hlt=>⟨by omega,hlt,?_⟩) (fun hlt => ?_)
   · have hlt':k<l.length:=by omega
     rw[idx_step (delB xs at') l k hlt'] at hi
     rw[blk_eq]
     refine cond_split (fun hc => ?_) (fun hc => ?_)
     · rw[show delB xs at' _=true from hc] at hi
       rw[hi]
       exact⟨rfl,rfl⟩
     · rw[show delB xs at' _=false from hc] at hi
       exact⟨l.length-(k+1),by omega,_,rfl,k+1,by omega,rfl,wrap_next k _ hlt' (by simp only[maxLen];omega),hi⟩
   · rw[hi,List.drop_of_length_le (by omega)]
     exact⟨rfl,rfl⟩
 · cases h
def consM2:Cons:=consM1
def twosM2:Cons2:=(80,con80_d)::twosM1
def pansM2:Cons3:=pansM1
def itersM2:Cons4:=itersM1
abbrev eM2:Env:=envOf4 consM2 twosM2 pansM2 itersM2
theorem allconsM2:∀c∈consM2,ConOk Tryz.prog c:=allconsM1
theorem alltwosM2:∀c∈twosM2,ConOk2 Tryz.prog c:=all_cons ok80_d alltwosM1
theorem allpansM2:∀c∈pansM2,ConOk3 Tryz.prog c:=allpansM1
theorem allitersM2:∀c∈itersM2,ConOk4 Tryz.prog c:=allitersM1
theorem envM2:EnvOk Tryz.prog eM2:=envOf4_ok _ _ _ _ allconsM2 alltwosM2 allpansM2 allitersM2
theorem idx_spec (p:Int→Bool):∀(l:List Int) (i:Int),0≤i→(idxFrom p l i = -1∧l.filter (fun x => !p x)=l)∨∃k:Nat,k<l.length∧idxFrom p l i=i+k∧(l.take k).filter (fun x => !p x)=l.take k∧p (l.getD k 0)=true
 | [],i,_=>.inl ⟨rfl,rfl⟩
 | x::l,i,h=>by
  cases hx:p x with
  | true=>exact .inr ⟨0,by simp,by simp[idxFrom,hx],by simp,by simpa using hx⟩
  | false=>
   have e:idxFrom p (x::l) i=idxFrom p l (i+1):=by simp[idxFrom,hx]
   rcases idx_spec p l (i+1) (by omega) with ⟨h1,h2⟩ | ⟨k,h1,h2,h3,h4⟩
   · exact .inl ⟨e.trans h1,by rw[List.filter_cons,hx];simp[h2]⟩
   · exact .inr ⟨k+1,by simp;omega,by rw[e,h2];push_cast;omega,by rw[List.take_succ_cons,List.filter_cons,hx];simp[h3],by simpa using h4⟩
theorem take_set {r:List Int} {i:Nat} (x:Int) (h:i<r.length):(r.set i x).take (i+1)=r.take i++[x]:=by
 apply List.ext_getElem?
 intro j
 rw[List.getElem?_take,List.getElem?_set,List.getElem?_append,List.length_take,List.getElem?_take]
 by_cases h1:j<i
 · rw[if_pos (by omega),if_neg (by omega),if_pos (by omega),if_pos h1]
 · by_cases h2:j=i
   · subst h2
     rw[if_pos (by omega),if_pos rfl,if_pos h,if_neg (by omega),show j-min j r.length=0 by omega];rfl
   · rw[if_neg (by omega),if_neg (by omega),List.getElem?_eq_none (by simp;omega)]
theorem getD_drop {r l:List Int} {j:Nat} (h:r.drop j=l.drop j):r.getD j 0=l.getD j 0:=by
 have:=congrArg (fun l:List Int=>l[0]?) h
 simp only[List.getElem?_drop,Nat.add_zero] at this
 simp only[List.getD,this]
theorem drop_more {r l:List Int} {j:Nat} (h:r.drop j=l.drop j):r.drop (j+1)=l.drop (j+1):=by
 rw[←List.drop_drop,←List.drop_drop,h]
abbrev eM2h61:Env:=eM2.hint [] [41]
theorem envM2h61:EnvOk Tryz.prog eM2h61:=envM2.hint _ _
def con61:List AV→List Ob→Option Tells2
 | [.row 0,.fn (.func 62) .nl (.cons (.ptr 1 0) (.cons (.ptr 2 0) .nl))],[.row 3 (.int .i64) l,.cells 3 [.int .i64 at'],.cells 27 [.lptr 88 (.list 92 (.pair (.pair (.int .i64) (.pair (.int .i64) (.pair (.int .i64) (.pair (.int .i64) (.pair (.int .i64) (.pair (.int .i64) (.pair (.pair (.int .i64) (.pair (.int .i64) (.pair (.int .i64) (.int .i64)))) (.pair (.int .i64) (.pair (.int .i64) (.pair (.int .i64) (.int .i64))))))))))) (.pair (.int .i64) (.pair (.int .i64) (.pair (.int .i64) (.list 3 (.int .i64))))))) [xs] 0 0]]=>some ⟨[l.length≤65536],.row 3,[some .dead,none,none],[.row 3 (.int .i64) (l.filter fun i => !delB xs at' i)]⟩
 | _,_=>none
def f61_live1:List Nat:=[6,0,0,6,1,0,5,5,6,0,5,0,5,4]
def f61_head1 (at':Int) (xs:List TN.den) (s5:Int) (s6:Int) (o3:List Int):St:={slots:=[AV.row 3,AV.fn (Fn.func 62) AV.nl ((AV.ptr 1 0).cons ((AV.ptr 2 0).cons AV.nl)),AV.undef,AV.undef,AV.row 4,AV.int .i64 s5,AV.int .i64 s6]++List.replicate 35 AV.undef,obs:=[Ob.dead,Ob.cells 3 [AV.int .i64 at'],Ob.cells 27 [AV.lptr 88 (Ty.list 92 TN) [xs] 0 0],Ob.row 3 KI o3,Ob.row 3 KI []],n:=3}
def f61_q1 (R:AV→List Ob→Prop):Ex→St→Prop:=blockA 0 (seqQ tab eM2h61 (subC [1,1,1,1] (bodyOf Tryz.f61)) [4] (endA tab Tryz.f61 R))
def f61_loop1 (R:AV→List Ob→Prop) (at':Int) (xs:List TN.den) (s5:Int) (s6:Int) (o3:List Int):Prop:=loopT f61_live1 (codeA tab eM2h61 (subC [1,1,1,0,1,0,0] (bodyOf Tryz.f61)) f61_live1) (f61_head1 at' xs s5 s6 o3) (f61_q1 R)
def f61_rhs1 (R:AV→List Ob→Prop) (at':Int) (xs:List TN.den) (J:St→Prop) (s5:Int) (s6:Int) (o3:List Int):Prop:=bif decide (s6<(↑o3.length:Int)) then 0≤s6∧s6<(↑o3.length:Int)∧bif !blk (delB xs at' (o3.getD s6.toNat 0)) then 0≤s5∧s5<(↑o3.length:Int)∧J (f61_head1 at' xs (IntKind.i64.wrap (s5+1)) (IntKind.i64.wrap (s6+1)) (o3.set s5.toNat (o3.getD s6.toNat 0))) else J (f61_head1 at' xs s5 (IntKind.i64.wrap (s6+1)) o3) else 0≤s5∧s5≤(↑o3.length:Int)∧(↑o3.length:Int)≤(↑o3.length:Int)∧0≤s5∧s5≤(↑(List.take s5.toNat o3++(List.replicate ((↑o3.length:Int)-s5).toNat 0++List.drop (s5.toNat+((↑o3.length:Int)-s5).toNat) o3)).length:Int)∧R (AV.row 3) [Ob.dead,Ob.cells 3 [AV.int .i64 at'],Ob.cells 27 [AV.lptr 88 (Ty.list 92 TN) [xs] 0 0],Ob.row 3 KI (List.take s5.toNat (List.take s5.toNat o3++(List.replicate ((↑o3.length:Int)-s5).toNat 0++List.drop (s5.toNat+((↑o3.length:Int)-s5).toNat) o3)))]
theorem f61_eq1 (R:AV→List Ob→Prop) (at':Int) (xs:List TN.den) (J:St→Prop) (s5:Int) (s6:Int) (o3:List Int):codeA tab eM2h61 (subC [1,1,1,0,1,0,0] (bodyOf Tryz.f61)) f61_live1 (f61_head1 at' xs s5 s6 o3) (thenA (fun s=>J (St.tidy f61_live1 s)) (f61_q1 R))=f61_rhs1 R at' xs J s5 s6 o3:=by kernel_rfl
set_option maxHeartbeats 2000000 in
theorem f61_rule1 (R:AV→List Ob→Prop) (at':Int) (xs:List TN.den) (I:Nat→(Int)→(Int)→(List Int)→Prop) (n:Nat) (s5:Int) (s6:Int) (o3:List Int) (h0:I n s5 s6 o3) (h:∀n,∀(s5:Int) (s6:Int) (o3:List Int),I n s5 s6 o3→f61_rhs1 R at' xs (fun t=>∃m,m<n∧∃(s5:Int) (s6:Int) (o3:List Int),t=f61_head1 at' xs s5 s6 o3∧I m s5 s6 o3) s5 s6 o3):f61_loop1 R at' xs s5 s6 o3:=
 loop_intro (fun n t=>∃(s5:Int) (s6:Int) (o3:List Int),t=f61_head1 at' xs s5 s6 o3∧I n s5 s6 o3) n ⟨s5,s6,o3,rfl,h0⟩ (fun n t ht=>by obtain⟨s5,s6,o3,rfl,hI⟩:=ht;exact Eq.mpr (f61_eq1 R at' xs (fun t=>∃m,m<n∧∃(s5:Int) (s6:Int) (o3:List Int),t=f61_head1 at' xs s5 s6 o3∧I m s5 s6 o3) s5 s6 o3) (h n s5 s6 o3 hI))
theorem f61_run (R:AV→List Ob→Prop) (l:List (Ty.int .i64).den) (at':Int) (xs:List TN.den):fnM tab eM2h61 Tryz.f61 (bodyOf Tryz.f61) [.row 0,.fn (.func 62) .nl (.cons (.ptr 1 0) (.cons (.ptr 2 0) .nl))] [.row 3 (.int .i64) l,.cells 3 [.int .i64 at'],.cells 27 [.lptr 88 (.list 92 TN) [xs] 0 0]] 0 R=(l.length≤65536∧bif blk (idxFrom (delB xs at') l 0) == -1 then R (AV.row 3) [Ob.dead,Ob.cells 3 [AV.int .i64 at'],Ob.cells 27 [AV.lptr 88 (Ty.list 92 TN) [xs] 0 0],Ob.row 3 KI l] else f61_loop1 R at' xs (blk (idxFrom (delB xs at') l 0)) (IntKind.i64.wrap (blk (idxFrom (delB xs at') l 0)+1)) l):=by kernel_rfl
theorem ok61:ConOk2 Tryz.prog (61,con61):=by
 intro args obs t h hp
 change con61 args obs=some t at h
 unfold con61 at h
 split at h
 · rename_i l at' xs
   change List (Ty.int .i64).den at l
   change List TN.den at xs
   cases h
   refine fn_ok2M envM2h61 tab_ok mixed Tryz.func61 (by kernel_rfl) (by kernel_rfl) 0 (by simp) ?_
   rw[f61_run]
   try dsimp only
   have hx:=hp (l.length≤65536) (by simp)
   clear hp
   refine⟨hx,?_⟩
   rw[blk_eq]
   rcases idx_spec (delB xs at') l 0 (Int.le_refl 0) with ⟨h1,h2⟩ | ⟨k,hk,h2,h3,h4⟩
   · rw[h1,h2]
     exact⟨rfl,rfl⟩
   rw[h2,show (0:Int)+k=k by omega]
   refine cond_no (beq_eq_false_iff_ne.2 (by omega)) ?_
   have hstart:l.take k=(l.take (k+1)).filter fun i => !delB xs at' i:=by
    rw[take_next l k hk,List.filter_append,h3]
    rw[getD_nat' l 0 k hk] at h4
    simp[h4]
   refine f61_rule1 _ at' xs (fun n s5 s6 r=>∃i j:Nat,j≤l.length∧i<j∧n=l.length-j∧s5=i∧s6=j∧r.length=l.length∧r.take i=((l.take j).filter fun i => !delB xs at' i)∧r.drop j=l.drop j) (l.length-(k+1)) _ _ l ⟨k,k+1,by omega,by omega,rfl,rfl,wrap_next k _ hk (by simp only[maxLen];omega),rfl,hstart,rfl⟩ ?_
   rintro n s5 s6 r ⟨i,j,hj,hij,rfl,rfl,rfl,hr,hrt,hrd⟩
   unfold f61_rhs1
   refine dec_split (fun hlt=>⟨by omega,hlt,?_⟩) (fun hlt => ?_)
   · have hlt':j<l.length:=by omega
     rw[Int.toNat_natCast,Int.toNat_natCast,getD_drop hrd,blk_eq]
     have hn:IntKind.wrap .i64 ((j:Int)+1)=((j+1:Nat):Int):=wrap_next j _ hlt' (by simp only[maxLen];omega)
     have hf:((l.take (j+1)).filter fun i => !delB xs at' i)=((l.take j).filter fun i => !delB xs at' i)++if !delB xs at' (l.getD j 0) then [l.getD j 0] else []:=by
      rw[take_next l j hlt',List.filter_append,getD_nat' l 0 j hlt']
      cases hd:delB xs at' l[j]<;>simp[hd]
     refine cond_split (fun hc => ?_) (fun hc => ?_)
     · refine⟨by omega,by omega,l.length-(j+1),by omega,_,_,_,rfl,i+1,j+1,by omega,by omega,rfl,wrap_id _ (by omega),hn,by rw[List.length_set];exact hr,?_,?_⟩
       · rw[take_set _ (by omega),hrt,hf,if_pos hc]
       · rw[List.drop_set_of_lt (by omega)];exact drop_more hrd
     · refine⟨l.length-(j+1),by omega,_,_,_,rfl,i,j+1,by omega,by omega,rfl,rfl,hn,hr,?_,drop_more hrd⟩
       rw[hrt,hf,if_neg (by rw[hc];simp),List.append_nil]
   · have hj':j=l.length:=by omega
     refine⟨by omega,by omega,by omega,by omega,by simp;omega,rfl,?_⟩
     have e:List.take (i:Int).toNat (List.take (i:Int).toNat r++(List.replicate ((r.length:Int)-i).toNat 0++List.drop ((i:Int).toNat+((r.length:Int)-i).toNat) r))=l.filter fun i => !delB xs at' i:=by
      rw[Int.toNat_natCast,List.take_append,List.take_take,Nat.min_self,List.length_take,show i-min i r.length=0 by omega,List.take_zero,List.append_nil,hrt,hj',List.take_of_length_le (Nat.le_refl _)]
     rw[e]
     rfl
 · cases h
def consM3:Cons:=consM2
def twosM3:Cons2:=(61,con61)::twosM2
def pansM3:Cons3:=pansM2
def itersM3:Cons4:=itersM2
abbrev eM3:Env:=envOf4 consM3 twosM3 pansM3 itersM3
theorem allconsM3:∀c∈consM3,ConOk Tryz.prog c:=allconsM2
theorem alltwosM3:∀c∈twosM3,ConOk2 Tryz.prog c:=all_cons ok61 alltwosM2
theorem allpansM3:∀c∈pansM3,ConOk3 Tryz.prog c:=allpansM2
theorem allitersM3:∀c∈itersM3,ConOk4 Tryz.prog c:=allitersM2
theorem envM3:EnvOk Tryz.prog eM3:=envOf4_ok _ _ _ _ allconsM3 alltwosM3 allpansM3 allitersM3
def fltL (xs:List Nd) (c at':Int):List Int:=(memL xs c).filter fun i => !delB xs at' i
def con41:List AV→Option Tells
 | [.lptr 88 (.list 92 (.pair (.pair (.int .i64) (.pair (.int .i64) (.pair (.int .i64) (.pair (.int .i64) (.pair (.int .i64) (.pair (.int .i64) (.pair (.pair (.int .i64) (.pair (.int .i64) (.pair (.int .i64) (.int .i64)))) (.pair (.int .i64) (.pair (.int .i64) (.pair (.int .i64) (.int .i64))))))))))) (.pair (.int .i64) (.pair (.int .i64) (.pair (.int .i64) (.list 3 (.int .i64))))))) [xs] 0 0,.int .i64 c,.int .i64 at']=>some ⟨[∀x∈(xs:List Nd),x.2.2.2.2.length≤65536,endQ xs (topQ xs c),(memL xs c).length≤65536],.row 0,[.row 3 (.int .i64) (fltL xs c at')]⟩
 | _=>none
theorem f41_run (R:AV→List Ob→Prop) (xs:List TN.den) (c at':Int):fnA tab eM3 Tryz.f41 (bodyOf Tryz.f41) [.lptr 88 (.list 92 TN) [xs] 0 0,.int .i64 c,.int .i64 at'] R=((∀(x:TN.den),x∈xs→List.length x.snd.snd.snd.snd≤65536)∧endQ xs (topQ xs c)∧(memL xs c).length≤65536∧R (AV.row 0) [Ob.row 3 KI (List.filter (fun i => !delB xs at' i) (memL xs c))]):=by kernel_rfl
theorem ok41:ConOk Tryz.prog (41,con41):=by
 intro args t h hp
 change con41 args=some t at h
 unfold con41 at h
 split at h
 · rename_i xs c at'
   change List TN.den at xs
   cases h
   refine fn_ok envM3 tab_ok mixed Tryz.func41 (by kernel_rfl) (by kernel_rfl) ?_
   rw[f41_run]
   try dsimp only
   exact⟨hp (∀x∈(xs:List Nd),x.2.2.2.2.length≤65536) (by simp),hp (endQ xs (topQ xs c)) (by simp),hp ((memL xs c).length≤65536) (by simp),rfl,rfl⟩
 · cases h
end
end Go.Proofs.YtkpjcmiijlpcaaaGreat.W
set_option linter.unusedVariables false
set_option linter.unusedSimpArgs false
namespace Go.Proofs.YtkpjcmiijlpcaaaGreat.W
open Go Go.Proofs Go.Proofs.YtkpjcmiijlpcaaaGreat.Aw
noncomputable section
def consR0:Cons:=[]
def twosR0:Cons2:=[]
def pansR0:Cons3:=[]
def itersR0:Cons4:=[]
abbrev eR0:Env:=envOf4 consR0 twosR0 pansR0 itersR0
theorem allconsR0:∀c∈consR0,ConOk Tryz.prog c:=all_nil
theorem alltwosR0:∀c∈twosR0,ConOk2 Tryz.prog c:=all_nil
theorem allpansR0:∀c∈pansR0,ConOk3 Tryz.prog c:=all_nil
theorem allitersR0:∀c∈itersR0,ConOk4 Tryz.prog c:=all_nil
theorem envR0:EnvOk Tryz.prog eR0:=envOf4_ok _ _ _ _ allconsR0 alltwosR0 allpansR0 allitersR0
def con40:List AV→Option Tells
 | [.agg (.cons (.int .i64 a) (.cons (.int .i64 b) (.cons (.int .i64 c) (.cons (.int .i64 d) .nl))))]=>some ⟨[],((AV.int .i64 a).cons ((AV.int .i64 c).cons AV.nl)).agg,[]⟩
 | _=>none
theorem f40_run (R:AV→List Ob→Prop) (a b c d:Int):fnA tab eR0 Tryz.f40 (bodyOf Tryz.f40) [.agg (.cons (.int .i64 a) (.cons (.int .i64 b) (.cons (.int .i64 c) (.cons (.int .i64 d) .nl))))] R=(R ((AV.int .i64 a).cons ((AV.int .i64 c).cons AV.nl)).agg []):=by kernel_rfl
theorem ok40:ConOk Tryz.prog (40,con40):=by
 intro args t h hp
 simp only[con40] at h
 split at h
 · cases h
   refine fn_ok envR0 tab_ok mixed Tryz.func40 (by kernel_rfl) (by kernel_rfl) ?_
   rw[f40_run]
   exact⟨rfl,rfl⟩
 · cases h
def con82:List AV→Option Tells
 | [.agg (.cons (.int .i64 a) (.cons (.int .i64 b) (.cons (.int .i64 c) (.cons (.int .i64 d) .nl))))]=>some ⟨[],((AV.int .i64 b).cons ((AV.int .i64 d).cons AV.nl)).agg,[]⟩
 | _=>none
theorem f82_run (R:AV→List Ob→Prop) (a b c d:Int):fnA tab eR0 Tryz.f82 (bodyOf Tryz.f82) [.agg (.cons (.int .i64 a) (.cons (.int .i64 b) (.cons (.int .i64 c) (.cons (.int .i64 d) .nl))))] R=(R ((AV.int .i64 b).cons ((AV.int .i64 d).cons AV.nl)).agg []):=by kernel_rfl
theorem ok82:ConOk Tryz.prog (82,con82):=by
 intro args t h hp
 simp only[con82] at h
 split at h
 · cases h
   refine fn_ok envR0 tab_ok mixed Tryz.func82 (by kernel_rfl) (by kernel_rfl) ?_
   rw[f82_run]
   exact⟨rfl,rfl⟩
 · cases h
def con105:List AV→Option Tells
 | [.agg (.cons (.int .i64 a) (.cons (.int .i64 b) .nl)),.agg (.cons (.int .i64 c) (.cons (.int .i64 d) .nl))]=>some ⟨[],((AV.int .i64 a).cons ((AV.int .i64 c).cons ((AV.int .i64 b).cons ((AV.int .i64 d).cons AV.nl)))).agg,[]⟩
 | _=>none
theorem f105_run (R:AV→List Ob→Prop) (a b c d:Int):fnA tab eR0 Tryz.f105 (bodyOf Tryz.f105) [.agg (.cons (.int .i64 a) (.cons (.int .i64 b) .nl)),.agg (.cons (.int .i64 c) (.cons (.int .i64 d) .nl))] R=(R ((AV.int .i64 a).cons ((AV.int .i64 c).cons ((AV.int .i64 b).cons ((AV.int .i64 d).cons AV.nl)))).agg []):=by kernel_rfl
theorem ok105:ConOk Tryz.prog (105,con105):=by
 intro args t h hp
 simp only[con105] at h
 split at h
 · cases h
   refine fn_ok envR0 tab_ok mixed Tryz.func105 (by kernel_rfl) (by kernel_rfl) ?_
   rw[f105_run]
   exact⟨rfl,rfl⟩
 · cases h
def con81:List AV→Option Tells
 | [.agg (.cons (.int .i64 a) (.cons (.int .i64 b) .nl))]=>some ⟨[],AV.int .i64 (IntKind.i64.wrap (b-a)),[]⟩
 | _=>none
theorem f81_run (R:AV→List Ob→Prop) (a b:Int):fnA tab eR0 Tryz.f81 (bodyOf Tryz.f81) [.agg (.cons (.int .i64 a) (.cons (.int .i64 b) .nl))] R=(R (AV.int .i64 (IntKind.i64.wrap (b-a))) []):=by kernel_rfl
theorem ok81:ConOk Tryz.prog (81,con81):=by
 intro args t h hp
 simp only[con81] at h
 split at h
 · cases h
   refine fn_ok envR0 tab_ok mixed Tryz.func81 (by kernel_rfl) (by kernel_rfl) ?_
   rw[f81_run]
   exact⟨rfl,rfl⟩
 · cases h
def con84:List AV→Option Tells
 | [.agg (.cons (.int .i64 a) (.cons (.int .i64 b) .nl)),.agg (.cons (.int .i64 c) (.cons (.int .i64 d) .nl))]=>some ⟨[],.agg (.cons (.int .i64 (max a c)) (.cons (.int .i64 (min b d)) .nl)),[]⟩
 | _=>none
theorem f84_run (R:AV→List Ob→Prop) (a b c d:Int):fnA tab eR0 Tryz.f84 (bodyOf Tryz.f84) [.agg (.cons (.int .i64 a) (.cons (.int .i64 b) .nl)),.agg (.cons (.int .i64 c) (.cons (.int .i64 d) .nl))] R=(R ((AV.int .i64 (if c>a then c else a)).cons ((AV.int .i64 (if d<b then d else b)).cons AV.nl)).agg []):=by kernel_rfl
theorem ok84:ConOk Tryz.prog (84,con84):=by
 intro args t h hp
 change con84 args=some t at h
 unfold con84 at h
 split at h
 · rename_i a b c d
   cases h
   refine fn_ok envR0 tab_ok mixed Tryz.func84 (by kernel_rfl) (by kernel_rfl) ?_
   rw[f84_run]
   try dsimp only
   rw[show (if c>a then c else a)=max a c by omega,show (if d<b then d else b)=min b d by omega]
   exact⟨rfl,rfl⟩
 · cases h
def consR1:Cons:=(40,con40)::(82,con82)::(105,con105)::(81,con81)::(84,con84)::consR0
def twosR1:Cons2:=twosR0
def pansR1:Cons3:=pansR0
def itersR1:Cons4:=itersR0
abbrev eR1:Env:=envOf4 consR1 twosR1 pansR1 itersR1
theorem allconsR1:∀c∈consR1,ConOk Tryz.prog c:=all_cons ok40 (all_cons ok82 (all_cons ok105 (all_cons ok81 (all_cons ok84 allconsR0))))
theorem alltwosR1:∀c∈twosR1,ConOk2 Tryz.prog c:=alltwosR0
theorem allpansR1:∀c∈pansR1,ConOk3 Tryz.prog c:=allpansR0
theorem allitersR1:∀c∈itersR1,ConOk4 Tryz.prog c:=allitersR0
theorem envR1:EnvOk Tryz.prog eR1:=envOf4_ok _ _ _ _ allconsR1 alltwosR1 allpansR1 allitersR1
def con83:List AV→Option Tells
 | [.fn (.func 84) .nl .nl,.agg (.cons (.int .i64 a) (.cons (.int .i64 b) (.cons (.int .i64 c) (.cons (.int .i64 d) .nl)))),.agg (.cons (.int .i64 x) (.cons (.int .i64 y) (.cons (.int .i64 z) (.cons (.int .i64 t) .nl))))]=>some ⟨[],((AV.int .i64 (max a x)).cons ((AV.int .i64 (max b y)).cons ((AV.int .i64 (min c z)).cons ((AV.int .i64 (min d t)).cons AV.nl)))).agg,[]⟩
 | _=>none
theorem f83_run (R:AV→List Ob→Prop) (a b c d x y z t:Int):fnA tab eR1 Tryz.f83 (bodyOf Tryz.f83) [.fn (.func 84) .nl .nl,.agg (.cons (.int .i64 a) (.cons (.int .i64 b) (.cons (.int .i64 c) (.cons (.int .i64 d) .nl)))),.agg (.cons (.int .i64 x) (.cons (.int .i64 y) (.cons (.int .i64 z) (.cons (.int .i64 t) .nl))))] R=(R ((AV.int .i64 (max a x)).cons ((AV.int .i64 (max b y)).cons ((AV.int .i64 (min c z)).cons ((AV.int .i64 (min d t)).cons AV.nl)))).agg []):=by kernel_rfl
theorem ok83:ConOk Tryz.prog (83,con83):=by
 intro args t h hp
 simp only[con83] at h
 split at h
 · cases h
   refine fn_ok envR1 tab_ok mixed Tryz.func83 (by kernel_rfl) (by kernel_rfl) ?_
   rw[f83_run]
   exact⟨rfl,rfl⟩
 · cases h
def consR2:Cons:=(83,con83)::consR1
def twosR2:Cons2:=twosR1
def pansR2:Cons3:=pansR1
def itersR2:Cons4:=itersR1
abbrev eR2:Env:=envOf4 consR2 twosR2 pansR2 itersR2
theorem allconsR2:∀c∈consR2,ConOk Tryz.prog c:=all_cons ok83 allconsR1
theorem alltwosR2:∀c∈twosR2,ConOk2 Tryz.prog c:=alltwosR1
theorem allpansR2:∀c∈pansR2,ConOk3 Tryz.prog c:=allpansR1
theorem allitersR2:∀c∈itersR2,ConOk4 Tryz.prog c:=allitersR1
theorem envR2:EnvOk Tryz.prog eR2:=envOf4_ok _ _ _ _ allconsR2 alltwosR2 allpansR2 allitersR2
def con64:List AV→Option Tells
 | [.agg (.cons (.int .i64 a) (.cons (.int .i64 b) (.cons (.int .i64 c) (.cons (.int .i64 d) .nl)))),.agg (.cons (.int .i64 x) (.cons (.int .i64 y) (.cons (.int .i64 z) (.cons (.int .i64 t) .nl))))]=>some ⟨[],((AV.int .i64 (max a x)).cons ((AV.int .i64 (max b y)).cons ((AV.int .i64 (min c z)).cons ((AV.int .i64 (min d t)).cons AV.nl)))).agg,[]⟩
 | _=>none
theorem f64_run (R:AV→List Ob→Prop) (a b c d x y z t:Int):fnA tab eR2 Tryz.f64 (bodyOf Tryz.f64) [.agg (.cons (.int .i64 a) (.cons (.int .i64 b) (.cons (.int .i64 c) (.cons (.int .i64 d) .nl)))),.agg (.cons (.int .i64 x) (.cons (.int .i64 y) (.cons (.int .i64 z) (.cons (.int .i64 t) .nl))))] R=(R ((AV.int .i64 (max a x)).cons ((AV.int .i64 (max b y)).cons ((AV.int .i64 (min c z)).cons ((AV.int .i64 (min d t)).cons AV.nl)))).agg []):=by kernel_rfl
theorem ok64:ConOk Tryz.prog (64,con64):=by
 intro args t h hp
 simp only[con64] at h
 split at h
 · cases h
   refine fn_ok envR2 tab_ok mixed Tryz.func64 (by kernel_rfl) (by kernel_rfl) ?_
   rw[f64_run]
   exact⟨rfl,rfl⟩
 · cases h
def fullW (a b c d:Int):Bool:=decide (0<IntKind.wrap .i64 (c-a))&&decide (0<IntKind.wrap .i64 (d-b))
def con63:List AV→Option Tells
 | [.agg (.cons (.int .i64 a) (.cons (.int .i64 b) (.cons (.int .i64 c) (.cons (.int .i64 d) .nl))))]=>some ⟨[],.bool (fullW a b c d),[]⟩
 | _=>none
theorem f63_run (R:AV→List Ob→Prop) (a b c d:Int):fnA tab eR1 Tryz.f63 (bodyOf Tryz.f63) [.agg (.cons (.int .i64 a) (.cons (.int .i64 b) (.cons (.int .i64 c) (.cons (.int .i64 d) .nl))))] R=(bif decide (IntKind.i64.wrap (c-a)>0) then R (AV.bool (decide (IntKind.i64.wrap (d-b)>0))) [] else R (AV.bool false) []):=by kernel_rfl
theorem ok63:ConOk Tryz.prog (63,con63):=by
 intro args t h hp
 change con63 args=some t at h
 unfold con63 at h
 split at h
 · rename_i a b c d
   cases h
   refine fn_ok envR1 tab_ok mixed Tryz.func63 (by kernel_rfl) (by kernel_rfl) ?_
   rw[f63_run]
   try dsimp only
   unfold fullW
   refine dec_split (fun h => ?_) (fun h => ?_)
   · rw[decide_eq_true (by omega:0<IntKind.wrap .i64 (c-a))];exact⟨by simp,rfl⟩
   · rw[decide_eq_false (by omega:¬0<IntKind.wrap .i64 (c-a))];exact⟨rfl,rfl⟩
 · cases h
def consR3:Cons:=(64,con64)::(63,con63)::consR2
def twosR3:Cons2:=twosR2
def pansR3:Cons3:=pansR2
def itersR3:Cons4:=itersR2
abbrev eR3:Env:=envOf4 consR3 twosR3 pansR3 itersR3
theorem allconsR3:∀c∈consR3,ConOk Tryz.prog c:=all_cons ok64 (all_cons ok63 allconsR2)
theorem alltwosR3:∀c∈twosR3,ConOk2 Tryz.prog c:=alltwosR2
theorem allpansR3:∀c∈pansR3,ConOk3 Tryz.prog c:=allpansR2
theorem allitersR3:∀c∈itersR3,ConOk4 Tryz.prog c:=allitersR2
theorem envR3:EnvOk Tryz.prog eR3:=envOf4_ok _ _ _ _ allconsR3 alltwosR3 allpansR3 allitersR3
def con42:List AV→Option Tells
 | [.agg (.cons (.int .i64 a) (.cons (.int .i64 b) (.cons (.int .i64 c) (.cons (.int .i64 d) .nl)))),.agg (.cons (.int .i64 x) (.cons (.int .i64 y) (.cons (.int .i64 z) (.cons (.int .i64 t) .nl))))]=>some ⟨[],AV.bool (fullW (max a x) (max b y) (min c z) (min d t)),[]⟩
 | _=>none
theorem f42_run (R:AV→List Ob→Prop) (a b c d x y z t:Int):fnA tab eR3 Tryz.f42 (bodyOf Tryz.f42) [.agg (.cons (.int .i64 a) (.cons (.int .i64 b) (.cons (.int .i64 c) (.cons (.int .i64 d) .nl)))),.agg (.cons (.int .i64 x) (.cons (.int .i64 y) (.cons (.int .i64 z) (.cons (.int .i64 t) .nl))))] R=(R (AV.bool (fullW (max a x) (max b y) (min c z) (min d t))) []):=by kernel_rfl
theorem ok42:ConOk Tryz.prog (42,con42):=by
 intro args t h hp
 simp only[con42] at h
 split at h
 · cases h
   refine fn_ok envR3 tab_ok mixed Tryz.func42 (by kernel_rfl) (by kernel_rfl) ?_
   rw[f42_run]
   exact⟨rfl,rfl⟩
 · cases h
end
end Go.Proofs.YtkpjcmiijlpcaaaGreat.W
