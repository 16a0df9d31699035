/- The document's answer for layer 20 (judge), function by function. -/
import Derived.Test.YtkpjcmiijlpcaaaGreatEa
import Derived.Test.YtkpjcmiijlpcaaaGreatAwAF
import Derived.Test.YtkpjcmiijlpcaaaGreatAwAH
import Derived.Test.YtkpjcmiijlpcaaaGreatFd
import Derived.Test.YtkpjcmiijlpcaaaGreatFe
import Derived.Test.YtkpjcmiijlpcaaaGreatFh
import Derived.Test.YtkpjcmiijlpcaaaGreatFi
import Derived.Test.YtkpjcmiijlpcaaaGreatPc
import Derived.Test.YtkpjcmiijlpcaaaGreatAwAI
import Derived.KernelRfl
set_option linter.unusedVariables false
set_option linter.unusedSimpArgs false
namespace Go.Proofs.YtkpjcmiijlpcaaaGreat.W
open Go Go.Proofs Go.Proofs.YtkpjcmiijlpcaaaGreat.Aw
noncomputable section
def consX0:Cons:=(30,con30_q)::[]
def twosX0:Cons2:=[]
def pansX0:Cons3:=[]
def itersX0:Cons4:=[]
abbrev eX0:Env:=envOf4 consX0 twosX0 pansX0 itersX0
theorem allconsX0:∀c∈consX0,ConOk Tryz.prog c:=all_cons ok30_q all_nil
theorem alltwosX0:∀c∈twosX0,ConOk2 Tryz.prog c:=all_nil
theorem allpansX0:∀c∈pansX0,ConOk3 Tryz.prog c:=all_nil
theorem allitersX0:∀c∈itersX0,ConOk4 Tryz.prog c:=all_nil
theorem envX0:EnvOk Tryz.prog eX0:=envOf4_ok _ _ _ _ allconsX0 alltwosX0 allpansX0 allitersX0
def con49:List AV→Option Tells
 | [.agg (.cons (.int .i64 a1) (.cons (.int .i64 a2) (.cons (.int .i64 a3) (.cons (.int .i64 a4) (.cons (.int .i64 a5) (.cons (.int .i64 a6) (.cons (.int .i64 a7) (.cons (.int .i64 a8) (.cons (.int .i64 a9) (.cons (.int .i64 a10) (.cons (.int .i64 a11) (.cons (.int .i64 a12) (.cons (.int .i64 a13) (.cons (.int .i64 a14) .nl))))))))))))))]=>some ⟨[],AV.bool (bif !a2==2 then a2==3 else true),[]⟩
 | _=>none
theorem f49_run (R:AV→List Ob→Prop) (a1 a2 a3 a4 a5 a6 a7 a8 a9 a10 a11 a12 a13 a14:Int):fnA tab eX0 Tryz.f49 (bodyOf Tryz.f49) [.agg (.cons (.int .i64 a1) (.cons (.int .i64 a2) (.cons (.int .i64 a3) (.cons (.int .i64 a4) (.cons (.int .i64 a5) (.cons (.int .i64 a6) (.cons (.int .i64 a7) (.cons (.int .i64 a8) (.cons (.int .i64 a9) (.cons (.int .i64 a10) (.cons (.int .i64 a11) (.cons (.int .i64 a12) (.cons (.int .i64 a13) (.cons (.int .i64 a14) .nl))))))))))))))] R=(bif !a2==2 then R (AV.bool (a2==3)) [] else R (AV.bool true) []):=by kernel_rfl
theorem ok49:ConOk Tryz.prog (49,con49):=by
 intro args t h hp
 simp only[con49] at h
 split at h
 · cases h
   refine fn_ok envX0 tab_ok mixed Tryz.func49 (by kernel_rfl) (by kernel_rfl) ?_
   rw[f49_run]
   exact cond_split (fun h0=>⟨by simp only[h0,cond_true,cond_false],by first | rfl | simp only[h0,cond_true,cond_false]⟩) (fun h0=>⟨by simp only[h0,cond_true,cond_false],by first | rfl | simp only[h0,cond_true,cond_false]⟩)
 · cases h
def con53:List AV→Option Tells
 | [.int .i64 a,.int .i64 b]=>some ⟨[],AV.bool (bif !a==3 then bif a != 0 then a==b else false else true),[]⟩
 | _=>none
theorem f53_run (R:AV→List Ob→Prop) (a b:Int):fnA tab eX0 Tryz.f53 (bodyOf Tryz.f53) [.int .i64 a,.int .i64 b] R=(bif !a==3 then bif a != 0 then R (AV.bool (a==b)) [] else R (AV.bool false) [] else R (AV.bool true) []):=by kernel_rfl
theorem ok53:ConOk Tryz.prog (53,con53):=by
 intro args t h hp
 simp only[con53] at h
 split at h
 · cases h
   refine fn_ok envX0 tab_ok mixed Tryz.func53 (by kernel_rfl) (by kernel_rfl) ?_
   rw[f53_run]
   exact cond_split (fun h0=>cond_split (fun h1=>⟨by simp only[h0,h1,cond_true,cond_false],by first | rfl | simp only[h0,h1,cond_true,cond_false]⟩) (fun h1=>⟨by simp only[h0,h1,cond_true,cond_false],by first | rfl | simp only[h0,h1,cond_true,cond_false]⟩)) (fun h0=>⟨by simp only[h0,cond_true,cond_false],by first | rfl | simp only[h0,cond_true,cond_false]⟩)
 · cases h
def con50:List AV→Option Tells
 | [.int .i64 a,.int .i64 b]=>some ⟨[],AV.int .i64 (bif decide (a>b) then a else b),[]⟩
 | _=>none
theorem f50_run (R:AV→List Ob→Prop) (a b:Int):fnA tab eX0 Tryz.f50 (bodyOf Tryz.f50) [.int .i64 a,.int .i64 b] R=(bif decide (a>b) then R (AV.int .i64 a) [] else R (AV.int .i64 b) []):=by kernel_rfl
theorem ok50:ConOk Tryz.prog (50,con50):=by
 intro args t h hp
 simp only[con50] at h
 split at h
 · cases h
   refine fn_ok envX0 tab_ok mixed Tryz.func50 (by kernel_rfl) (by kernel_rfl) ?_
   rw[f50_run]
   exact cond_split (fun h0=>⟨by simp only[h0,cond_true,cond_false],by first | rfl | simp only[h0,cond_true,cond_false]⟩) (fun h0=>⟨by simp only[h0,cond_true,cond_false],by first | rfl | simp only[h0,cond_true,cond_false]⟩)
 · cases h
def con51:List AV→Option Tells
 | [.agg (.cons (.int .i64 a) (.cons (.int .i64 b) (.cons (.int .i64 c) (.cons (.int .i64 d) .nl)))),.int .i64 x,.int .i64 y]=>some ⟨[],AV.bool (bif decide (x≥a) then bif decide (x<c) then bif decide (y≥b) then decide (y<d) else false else false else false),[]⟩
 | _=>none
theorem f51_run (R:AV→List Ob→Prop) (a b c d x y:Int):fnA tab eX0 Tryz.f51 (bodyOf Tryz.f51) [.agg (.cons (.int .i64 a) (.cons (.int .i64 b) (.cons (.int .i64 c) (.cons (.int .i64 d) .nl)))),.int .i64 x,.int .i64 y] R=((0:Int)≤0∧(0:Int)<4∧bif decide (x≥a) then (0:Int)≤2∧(2:Int)<4∧bif decide (x<c) then (0:Int)≤1∧(1:Int)<4∧bif decide (y≥b) then (0:Int)≤3∧(3:Int)<4∧R (AV.bool (decide (y<d))) [] else R (AV.bool false) [] else R (AV.bool false) [] else R (AV.bool false) []):=by kernel_rfl
theorem ok51:ConOk Tryz.prog (51,con51):=by
 intro args t h hp
 simp only[con51] at h
 split at h
 · cases h
   refine fn_ok envX0 tab_ok mixed Tryz.func51 (by kernel_rfl) (by kernel_rfl) ?_
   rw[f51_run]
   exact⟨of_decide_eq_true rfl,⟨of_decide_eq_true rfl,cond_split (fun h0=>⟨of_decide_eq_true rfl,⟨of_decide_eq_true rfl,cond_split (fun h1=>⟨of_decide_eq_true rfl,⟨of_decide_eq_true rfl,cond_split (fun h2=>⟨of_decide_eq_true rfl,⟨of_decide_eq_true rfl,⟨by simp only[h0,h1,h2,cond_true,cond_false],by first | rfl | simp only[h0,h1,h2,cond_true,cond_false]⟩⟩⟩) (fun h2=>⟨by simp only[h0,h1,h2,cond_true,cond_false],by first | rfl | simp only[h0,h1,h2,cond_true,cond_false]⟩)⟩⟩) (fun h1=>⟨by simp only[h0,h1,cond_true,cond_false],by first | rfl | simp only[h0,h1,cond_true,cond_false]⟩)⟩⟩) (fun h0=>⟨by simp only[h0,cond_true,cond_false],by first | rfl | simp only[h0,cond_true,cond_false]⟩)⟩⟩
 · cases h
def consX1:Cons:=(49,con49)::(50,con50)::(51,con51)::(53,con53)::consX0
def twosX1:Cons2:=twosX0
def pansX1:Cons3:=pansX0
def itersX1:Cons4:=itersX0
abbrev eX1:Env:=envOf4 consX1 twosX1 pansX1 itersX1
theorem allconsX1:∀c∈consX1,ConOk Tryz.prog c:=all_cons ok49 (all_cons ok50 (all_cons ok51 (all_cons ok53 allconsX0)))
theorem alltwosX1:∀c∈twosX1,ConOk2 Tryz.prog c:=alltwosX0
theorem allpansX1:∀c∈pansX1,ConOk3 Tryz.prog c:=allpansX0
theorem allitersX1:∀c∈itersX1,ConOk4 Tryz.prog c:=allitersX0
theorem envX1:EnvOk Tryz.prog eX1:=envOf4_ok _ _ _ _ allconsX1 alltwosX1 allpansX1 allitersX1
def grI (a b:Int):Int:=bif decide (a>b) then a else b
def hasR (r:R4) (x y:Int):Bool:=bif decide (x≥r.1) then (bif decide (x<r.2.2.1) then (bif decide (y≥r.2.1) then decide (y<r.2.2.2) else false) else false) else false
def meet6 (r s:R4):Bool:=bif hasR r (grI r.1 s.1) (grI r.2.1 s.2.1) then hasR s (grI r.1 s.1) (grI r.2.1 s.2.1) else false
def con27:List AV→Option Tells
 | [.agg (.cons (.int .i64 a) (.cons (.int .i64 b) (.cons (.int .i64 c) (.cons (.int .i64 d) .nl)))),.agg (.cons (.int .i64 e) (.cons (.int .i64 f) (.cons (.int .i64 g) (.cons (.int .i64 h) .nl))))]=>some ⟨[],.bool (blk (meet6 (a,b,c,d) (e,f,g,h))),[]⟩
 | _=>none
theorem f27_run (R:AV→List Ob→Prop) (a b c d e f g h:Int):fnA tab eX1 Tryz.f27 (bodyOf Tryz.f27) [.agg (.cons (.int .i64 a) (.cons (.int .i64 b) (.cons (.int .i64 c) (.cons (.int .i64 d) .nl)))),.agg (.cons (.int .i64 e) (.cons (.int .i64 f) (.cons (.int .i64 g) (.cons (.int .i64 h) .nl))))] R=((0:Int)≤0∧(0:Int)<4∧(0:Int)≤0∧(0:Int)<4∧(0:Int)≤1∧(1:Int)<4∧(0:Int)≤1∧(1:Int)<4∧bif bif decide ((bif decide (a>e) then a else e)≥a) then bif decide ((bif decide (a>e) then a else e)<c) then bif decide ((bif decide (b>f) then b else f)≥b) then decide ((bif decide (b>f) then b else f)<d) else false else false else false then R (AV.bool (bif decide ((bif decide (a>e) then a else e)≥e) then bif decide ((bif decide (a>e) then a else e)<g) then bif decide ((bif decide (b>f) then b else f)≥f) then decide ((bif decide (b>f) then b else f)<h) else false else false else false)) [] else R (AV.bool false) []):=by kernel_rfl
theorem ok27:ConOk Tryz.prog (27,con27):=by
 intro args t h hp
 change con27 args=some t at h
 unfold con27 at h
 split at h
 · rename_i a b c d e f g h
   cases h
   refine fn_ok envX1 tab_ok mixed Tryz.func27 (by kernel_rfl) (by kernel_rfl) ?_
   rw[f27_run]
   try dsimp only
   have hx:meet6 (a,b,c,d) (e,f,g,h)=bif hasR (a,b,c,d) (grI a e) (grI b f) then hasR (e,f,g,h) (grI a e) (grI b f) else false:=rfl
   rw[blk_eq,hx]
   clear hx
   refine⟨by omega,by omega,by omega,by omega,by omega,by omega,by omega,by omega,?_⟩
   refine cond_split (fun hh => ?_) (fun hh => ?_)
   · rw[show hasR (a,b,c,d) (grI a e) (grI b f)=true from hh];exact⟨rfl,rfl⟩
   · rw[show hasR (a,b,c,d) (grI a e) (grI b f)=false from hh];exact⟨rfl,rfl⟩
 · cases h
def par6 (l:List Bx) (i:Int):Int:=parFrom l (IntKind.i64.wrap ((l.getD i.toNat zBx).1-1)) i.toNat
def op6 (l:List Bx) (i:Int):Bool:=bif !(l.getD i.toNat zBx).2.1==2 then (l.getD i.toNat zBx).2.1==3 else true
def ctF6 (l:List Bx):Nat→Int→Int
 | 0,p=>p
 | f+1,p=>bif decide (p>0) then (bif op6 l p then p else ctF6 l f (par6 l p)) else p
def ctx6 (l:List Bx) (i:Int):Int:=bif decide (ctF6 l i.toNat (par6 l i)<0) then 0 else ctF6 l i.toNat (par6 l i)
theorem parFrom_lt (l:List Bx) (d:Int):∀k:Nat,-1≤parFrom l d k∧parFrom l d k<k
 | 0=>⟨by simp[parFrom],by simp[parFrom]⟩
 | k+1=>by
  have h:=parFrom_lt l d k
  simp only[parFrom]
  cases ((l.getD k zBx).1==d) with
  | true=>simp only[cond_true];omega
  | false=>simp only[cond_false];omega
def con26:List AV→Option Tells
 | [.list 80 (.pair (.int .i64) (.pair (.int .i64) (.pair (.int .i64) (.pair (.int .i64) (.pair (.int .i64) (.pair (.int .i64) (.pair (.pair (.int .i64) (.pair (.int .i64) (.pair (.int .i64) (.int .i64)))) (.pair (.int .i64) (.pair (.int .i64) (.pair (.int .i64) (.int .i64))))))))))) l,.int .i64 i]=>some ⟨[0≤i,i<(l.length:Int),l.length≤4096],.int .i64 (blk (ctx6 l i)),[]⟩
 | _=>none
def f26_live1:List Nat:=[5,0,5,0,5,5,5,4]
def f26_head1 (l:List TB.den) (s5:Int):St:={slots:=[AV.list 80 TB l,AV.undef,AV.undef,AV.undef,AV.int .i64 0,AV.int .i64 s5]++List.replicate 19 AV.undef,obs:=[]}
def f26_q1 (R:AV→List Ob→Prop):Ex→St→Prop:=blockA 0 (seqQ tab eX1 (subC [1,1,1] (bodyOf Tryz.f26)) [4] (endA tab Tryz.f26 R))
def f26_loop1 (R:AV→List Ob→Prop) (l:List TB.den) (s5:Int):Prop:=loopT f26_live1 (codeA tab eX1 (subC [1,1,0,0,0] (bodyOf Tryz.f26)) f26_live1) (f26_head1 l s5) (f26_q1 R)
def f26_rhs1 (R:AV→List Ob→Prop) (l:List TB.den) (J:St→Prop) (s5:Int):Prop:=bif decide (s5>0) then 0≤s5∧s5<(↑l.length:Int)∧bif !bif !(l.getD s5.toNat (0,0,0,0,0,0,(0,0,0,0),0,0,0,0)).snd.fst==2 then (l.getD s5.toNat (0,0,0,0,0,0,(0,0,0,0),0,0,0,0)).snd.fst==3 else true then 0≤s5∧s5<(↑l.length:Int)∧s5≤65536∧J (f26_head1 l (blk (parFrom l (IntKind.i64.wrap ((l.getD s5.toNat zBx).fst-1)) s5.toNat))) else bif decide (s5<0) then R (AV.int .i64 0) [] else R (AV.int .i64 s5) [] else bif decide (s5<0) then R (AV.int .i64 0) [] else R (AV.int .i64 s5) []
theorem f26_eq1 (R:AV→List Ob→Prop) (l:List TB.den) (J:St→Prop) (s5:Int):codeA tab eX1 (subC [1,1,0,0,0] (bodyOf Tryz.f26)) f26_live1 (f26_head1 l s5) (thenA (fun s=>J (St.tidy f26_live1 s)) (f26_q1 R))=f26_rhs1 R l J s5:=by kernel_rfl
set_option maxHeartbeats 2000000 in
theorem f26_rule1 (R:AV→List Ob→Prop) (l:List TB.den) (I:Nat→(Int)→Prop) (n:Nat) (s5:Int) (h0:I n s5) (h:∀n,∀(s5:Int),I n s5→f26_rhs1 R l (fun t=>∃m,m<n∧∃(s5:Int),t=f26_head1 l s5∧I m s5) s5):f26_loop1 R l s5:=
 loop_intro (fun n t=>∃(s5:Int),t=f26_head1 l s5∧I n s5) n ⟨s5,rfl,h0⟩ (fun n t ht=>by obtain⟨s5,rfl,hI⟩:=ht;exact Eq.mpr (f26_eq1 R l (fun t=>∃m,m<n∧∃(s5:Int),t=f26_head1 l s5∧I m s5) s5) (h n s5 hI))
theorem f26_run (R:AV→List Ob→Prop) (l:List TB.den) (i:Int):fnA tab eX1 Tryz.f26 (bodyOf Tryz.f26) [.list 80 TB l,.int .i64 i] R=(0≤i∧i<(↑l.length:Int)∧i≤65536∧f26_loop1 R l (blk (parFrom l (IntKind.i64.wrap ((l.getD i.toNat zBx).fst-1)) i.toNat))):=by kernel_rfl
theorem ok26:ConOk Tryz.prog (26,con26):=by
 intro args t h hp
 change con26 args=some t at h
 unfold con26 at h
 split at h
 · rename_i l i
   change List TB.den at l
   cases h
   refine fn_ok envX1 tab_ok mixed Tryz.func26 (by kernel_rfl) (by kernel_rfl) ?_
   rw[f26_run]
   try dsimp only
   have h0:=hp (0≤i) (by simp)
   have h1:=hp (i<(l.length:Int)) (by simp)
   have h2:=hp (l.length≤4096) (by simp)
   clear hp
   rw[blk_eq,blk_eq]
   have hp0:=parFrom_lt l (IntKind.i64.wrap ((l.getD i.toNat zBx).1-1)) i.toNat
   refine⟨h0,h1,by omega,?_⟩
   refine f26_rule1 _ l (fun n s=>n=s.toNat ∧ -1≤s∧s<(l.length:Int)∧∃f,s.toNat≤f∧ctF6 l i.toNat (par6 l i)=ctF6 l f s) _ _ ⟨rfl,hp0.1,by omega,i.toNat,by omega,rfl⟩ ?_
   rintro n s ⟨rfl,hs0,hs1,f,hf,hc⟩
   unfold f26_rhs1
   refine dec_split (fun hlt=>⟨by omega,hs1,?_⟩) (fun hlt => ?_)
   · obtain⟨m,rfl⟩:∃m,f=m+1:=⟨f-1,by omega⟩
     rw[ctF6,decide_eq_true hlt,cond_true] at hc
     refine cond_split (fun ho => ?_) (fun ho => ?_)
     · have ho':op6 l s=false:=by
        have ho:(!op6 l s)=true:=ho
        simpa using ho
       rw[ho',cond_false] at hc
       have hq:=parFrom_lt l (IntKind.i64.wrap ((l.getD s.toNat zBx).1-1)) s.toNat
       refine⟨by omega,hs1,by omega,(par6 l s).toNat,by unfold par6;omega,_,rfl,?_⟩
       rw[blk_eq]
       exact⟨rfl,hq.1,by omega,m,by omega,hc⟩
     · have ho':op6 l s=true:=by
        have ho:(!op6 l s)=false:=ho
        simpa using ho
       rw[ho',cond_true] at hc
       refine dec_split (fun h=>by omega) (fun h=>⟨by unfold ctx6;rw[hc,decide_eq_false (by omega)];rfl,rfl⟩)
   · have e:ctF6 l f s=s:=by
      cases f with
      | zero=>rfl
      | succ m=>rw[ctF6,decide_eq_false hlt];rfl
     rw[e] at hc
     refine dec_split (fun h=>⟨by unfold ctx6;rw[hc,decide_eq_true h];rfl,rfl⟩) (fun h=>⟨by unfold ctx6;rw[hc,decide_eq_false h];rfl,rfl⟩)
 · cases h
def endF6 (l:List Bx) (d:Int):Nat→Nat→Nat
 | 0,k=>k
 | f+1,k=>bif decide ((l.getD k zBx).1>d) then endF6 l d f (k+1) else k
def end6 (l:List Bx) (i:Nat):Nat:=endF6 l (l.getD i zBx).1 (l.length-(i+1)) (i+1)
def con90:List AV→Option Tells
 | [.list 80 (.pair (.int .i64) (.pair (.int .i64) (.pair (.int .i64) (.pair (.int .i64) (.pair (.int .i64) (.pair (.int .i64) (.pair (.pair (.int .i64) (.pair (.int .i64) (.pair (.int .i64) (.int .i64)))) (.pair (.int .i64) (.pair (.int .i64) (.pair (.int .i64) (.int .i64))))))))))) l,.int .i64 i]=>some ⟨[0≤i,i<(l.length:Int),l.length≤4096],.int .i64 (blk (end6 l i.toNat):Nat),[]⟩
 | _=>none
def f90_live1:List Nat:=[5,0,0,5,0,1,5,5,4]
def f90_head1 (l:List TB.den) (i:Int) (s5:Int):St:={slots:=[AV.list 80 TB l,AV.int .i64 i,AV.undef,AV.undef,AV.int .i64 0,AV.int .i64 s5]++List.replicate 22 AV.undef,obs:=[]}
def f90_q1 (R:AV→List Ob→Prop):Ex→St→Prop:=blockA 0 (seqQ tab eX1 (subC [1,1,1] (bodyOf Tryz.f90)) [4] (endA tab Tryz.f90 R))
def f90_loop1 (R:AV→List Ob→Prop) (l:List TB.den) (i:Int) (s5:Int):Prop:=loopT f90_live1 (codeA tab eX1 (subC [1,1,0,0,0] (bodyOf Tryz.f90)) f90_live1) (f90_head1 l i s5) (f90_q1 R)
def f90_rhs1 (R:AV→List Ob→Prop) (l:List TB.den) (i:Int) (J:St→Prop) (s5:Int):Prop:=bif decide (s5<(↑l.length:Int)) then 0≤s5∧s5<(↑l.length:Int)∧0≤i∧i<(↑l.length:Int)∧bif decide ((l.getD s5.toNat (0,0,0,0,0,0,(0,0,0,0),0,0,0,0)).fst>(l.getD i.toNat (0,0,0,0,0,0,(0,0,0,0),0,0,0,0)).fst) then J (f90_head1 l i (IntKind.i64.wrap (s5+1))) else R (AV.int .i64 s5) [] else R (AV.int .i64 s5) []
theorem f90_eq1 (R:AV→List Ob→Prop) (l:List TB.den) (i:Int) (J:St→Prop) (s5:Int):codeA tab eX1 (subC [1,1,0,0,0] (bodyOf Tryz.f90)) f90_live1 (f90_head1 l i s5) (thenA (fun s=>J (St.tidy f90_live1 s)) (f90_q1 R))=f90_rhs1 R l i J s5:=by kernel_rfl
set_option maxHeartbeats 2000000 in
theorem f90_rule1 (R:AV→List Ob→Prop) (l:List TB.den) (i:Int) (I:Nat→(Int)→Prop) (n:Nat) (s5:Int) (h0:I n s5) (h:∀n,∀(s5:Int),I n s5→f90_rhs1 R l i (fun t=>∃m,m<n∧∃(s5:Int),t=f90_head1 l i s5∧I m s5) s5):f90_loop1 R l i s5:=
 loop_intro (fun n t=>∃(s5:Int),t=f90_head1 l i s5∧I n s5) n ⟨s5,rfl,h0⟩ (fun n t ht=>by obtain⟨s5,rfl,hI⟩:=ht;exact Eq.mpr (f90_eq1 R l i (fun t=>∃m,m<n∧∃(s5:Int),t=f90_head1 l i s5∧I m s5) s5) (h n s5 hI))
theorem f90_run (R:AV→List Ob→Prop) (l:List TB.den) (i:Int):fnA tab eX1 Tryz.f90 (bodyOf Tryz.f90) [.list 80 TB l,.int .i64 i] R=(f90_loop1 R l i (IntKind.i64.wrap (i+1))):=by kernel_rfl
theorem ok90:ConOk Tryz.prog (90,con90):=by
 intro args t h hp
 change con90 args=some t at h
 unfold con90 at h
 split at h
 · rename_i l i
   change List TB.den at l
   cases h
   refine fn_ok envX1 tab_ok mixed Tryz.func90 (by kernel_rfl) (by kernel_rfl) ?_
   rw[f90_run]
   try dsimp only
   have h0:=hp (0≤i) (by simp)
   have h1:=hp (i<(l.length:Int)) (by simp)
   have h2:=hp (l.length≤4096) (by simp)
   clear hp
   obtain⟨j,rfl⟩:∃j:Nat,i=j:=⟨i.toNat,by omega⟩
   rw[blk_eq,wrap_id ((j:Int)+1) (by omega),Int.toNat_natCast]
   refine f90_rule1 _ l (j:Int) (fun n s=>∃k:Nat,s=k∧k≤l.length∧n=l.length-k∧end6 l j=endF6 l (l.getD j zBx).1 (l.length-k) k) _ _ ⟨j+1,by omega,by omega,rfl,rfl⟩ ?_
   rintro n s ⟨k,rfl,hk,rfl,he⟩
   unfold f90_rhs1
   refine dec_split (fun hlt=>⟨by omega,hlt,h0,h1,?_⟩) (fun hlt => ?_)
   · rw[show l.length-k=(l.length-(k+1))+1 by omega,endF6] at he
     rw[Int.toNat_natCast,Int.toNat_natCast]
     refine dec_split (fun hd => ?_) (fun hd => ?_)
     · rw[decide_eq_true hd,cond_true] at he
       exact⟨l.length-(k+1),by omega,_,rfl,k+1,wrap_id _ (by omega),by omega,rfl,he⟩
     · rw[decide_eq_false hd,cond_false] at he
       rw[he];exact⟨rfl,rfl⟩
   · rw[show l.length-k=0 by omega,endF6] at he
     rw[he];exact⟨rfl,rfl⟩
 · cases h
theorem endF6_le (l:List Bx) (d:Int):∀f k,k≤endF6 l d f k∧endF6 l d f k≤k+f
 | 0,k=>by simp[endF6]
 | f+1,k=>by
  have h:=endF6_le l d f (k+1)
  simp only[endF6]
  cases decide ((l.getD k zBx).1>d) with
  | true=>simp only[cond_true];omega
  | false=>simp only[cond_false];omega
theorem end6_le (l:List Bx) (i:Nat) (h:i<l.length):i+1≤end6 l i∧end6 l i≤l.length:=by
 have:=endF6_le l (l.getD i zBx).1 (l.length-(i+1)) (i+1)
 unfold end6;omega
def consX2:Cons:=(90,con90)::(26,con26)::consX1
def twosX2:Cons2:=twosX1
def pansX2:Cons3:=pansX1
def itersX2:Cons4:=itersX1
abbrev eX2:Env:=envOf4 consX2 twosX2 pansX2 itersX2
theorem allconsX2:∀c∈consX2,ConOk Tryz.prog c:=all_cons ok90 (all_cons ok26 allconsX1)
theorem alltwosX2:∀c∈twosX2,ConOk2 Tryz.prog c:=alltwosX1
theorem allpansX2:∀c∈pansX2,ConOk3 Tryz.prog c:=allpansX1
theorem allitersX2:∀c∈itersX2,ConOk4 Tryz.prog c:=allitersX1
theorem envX2:EnvOk Tryz.prog eX2:=envOf4_ok _ _ _ _ allconsX2 alltwosX2 allpansX2 allitersX2
def kidF6 (l:List Bx) (d:Int):Nat→Nat→List Int
 | 0,_=>[]
 | f+1,k=>(bif (l.getD k zBx).1==d then [(k:Int)] else [])++kidF6 l d f (k+1)
def kids6 (l:List Bx) (i:Nat):List Int:=kidF6 l (IntKind.i64.wrap ((l.getD i zBx).1+1)) (end6 l i-(i+1)) (i+1)
def con76:List AV→Option Tells
 | [.list 80 (.pair (.int .i64) (.pair (.int .i64) (.pair (.int .i64) (.pair (.int .i64) (.pair (.int .i64) (.pair (.int .i64) (.pair (.pair (.int .i64) (.pair (.int .i64) (.pair (.int .i64) (.int .i64)))) (.pair (.int .i64) (.pair (.int .i64) (.pair (.int .i64) (.int .i64))))))))))) l,.int .i64 i]=>some ⟨[0≤i,i<(l.length:Int),l.length≤4096],.row 0,[.row 3 (.int .i64) (blk (kids6 l i.toNat))]⟩
 | _=>none
def f76_live1:List Nat:=[6,0,1,0,6,0,1,5,6,6,5,4]
def f76_head1 (l:List TB.den) (i:Int) (s6:Int) (o1:List Int):St:={slots:=[AV.list 80 TB l,AV.int .i64 i,AV.undef,AV.undef,AV.row 0,AV.row 1,AV.int .i64 s6]++List.replicate 27 AV.undef,obs:=[Ob.row 3 KI [],Ob.row 3 KI o1]}
def f76_q1 (R:AV→List Ob→Prop):Ex→St→Prop:=blockA 0 (seqQ tab eX2 (subC [1,1,1] (bodyOf Tryz.f76)) [4] (endA tab Tryz.f76 R))
def f76_loop1 (R:AV→List Ob→Prop) (l:List TB.den) (i:Int) (s6:Int) (o1:List Int):Prop:=loopT f76_live1 (codeA tab eX2 (subC [1,1,0,1,0,0] (bodyOf Tryz.f76)) f76_live1) (f76_head1 l i s6 o1) (f76_q1 R)
def f76_rhs1 (R:AV→List Ob→Prop) (l:List TB.den) (i:Int) (J:St→Prop) (s6:Int) (o1:List Int):Prop:=0≤i∧i<(↑l.length:Int)∧l.length≤4096∧bif decide (s6<(↑(blk (end6 l i.toNat)):Int)) then 0≤s6∧s6<(↑l.length:Int)∧0≤i∧i<(↑l.length:Int)∧bif (l.getD s6.toNat (0,0,0,0,0,0,(0,0,0,0),0,0,0,0)).fst==IntKind.i64.wrap ((l.getD i.toNat (0,0,0,0,0,0,(0,0,0,0),0,0,0,0)).fst+1) then (o1.length+1)*8≤140737488355328∧J (f76_head1 l i (IntKind.i64.wrap (s6+1)) (o1++[s6])) else J (f76_head1 l i (IntKind.i64.wrap (s6+1)) o1) else R (AV.row 0) [Ob.row 3 KI o1]
theorem f76_eq1 (R:AV→List Ob→Prop) (l:List TB.den) (i:Int) (J:St→Prop) (s6:Int) (o1:List Int):codeA tab eX2 (subC [1,1,0,1,0,0] (bodyOf Tryz.f76)) f76_live1 (f76_head1 l i s6 o1) (thenA (fun s=>J (St.tidy f76_live1 s)) (f76_q1 R))=f76_rhs1 R l i J s6 o1:=by kernel_rfl
set_option maxHeartbeats 2000000 in
theorem f76_rule1 (R:AV→List Ob→Prop) (l:List TB.den) (i:Int) (I:Nat→(Int)→(List Int)→Prop) (n:Nat) (s6:Int) (o1:List Int) (h0:I n s6 o1) (h:∀n,∀(s6:Int) (o1:List Int),I n s6 o1→f76_rhs1 R l i (fun t=>∃m,m<n∧∃(s6:Int) (o1:List Int),t=f76_head1 l i s6 o1∧I m s6 o1) s6 o1):f76_loop1 R l i s6 o1:=
 loop_intro (fun n t=>∃(s6:Int) (o1:List Int),t=f76_head1 l i s6 o1∧I n s6 o1) n ⟨s6,o1,rfl,h0⟩ (fun n t ht=>by obtain⟨s6,o1,rfl,hI⟩:=ht;exact Eq.mpr (f76_eq1 R l i (fun t=>∃m,m<n∧∃(s6:Int) (o1:List Int),t=f76_head1 l i s6 o1∧I m s6 o1) s6 o1) (h n s6 o1 hI))
theorem f76_run (R:AV→List Ob→Prop) (l:List TB.den) (i:Int):fnA tab eX2 Tryz.f76 (bodyOf Tryz.f76) [.list 80 TB l,.int .i64 i] R=(f76_loop1 R l i (IntKind.i64.wrap (i+1)) []):=by kernel_rfl
theorem ok76:ConOk Tryz.prog (76,con76):=by
 intro args t h hp
 change con76 args=some t at h
 unfold con76 at h
 split at h
 · rename_i l i
   change List TB.den at l
   cases h
   refine fn_ok envX2 tab_ok mixed Tryz.func76 (by kernel_rfl) (by kernel_rfl) ?_
   rw[f76_run]
   try dsimp only
   have h0:=hp (0≤i) (by simp)
   have h1:=hp (i<(l.length:Int)) (by simp)
   have h2:=hp (l.length≤4096) (by simp)
   clear hp
   obtain⟨j,rfl⟩:∃j:Nat,i=j:=⟨i.toNat,by omega⟩
   rw[blk_eq,wrap_id ((j:Int)+1) (by omega),Int.toNat_natCast]
   have he:=end6_le l j (by omega)
   refine f76_rule1 _ l (j:Int) (fun n s o=>∃k:Nat,s=k∧k≤end6 l j∧n=end6 l j-k∧o.length≤k∧kids6 l j=o++kidF6 l (IntKind.i64.wrap ((l.getD j zBx).1+1)) (end6 l j-k) k) _ _ [] ⟨j+1,by omega,by omega,rfl,by simp,rfl⟩ ?_
   rintro n s o ⟨k,rfl,hk,rfl,ho,hc⟩
   unfold f76_rhs1
   simp only[Int.toNat_natCast,blk_eq]
   refine⟨h0,h1,h2,dec_split (fun hlt => ?_) (fun hlt => ?_)⟩
   · rw[show end6 l j-k=(end6 l j-(k+1))+1 by omega,kidF6] at hc
     refine⟨by omega,by omega,h0,h1,cond_split (fun hd=>⟨by omega,?_⟩) (fun hd => ?_)⟩
     · rw[show ((l.getD k zBx).1==_)=true from hd,cond_true] at hc
       exact⟨end6 l j-(k+1),by omega,_,_,rfl,k+1,wrap_id _ (by omega),by omega,rfl,by simp;omega,by rw[hc];simp⟩
     · rw[show ((l.getD k zBx).1==_)=false from hd,cond_false] at hc
       exact⟨end6 l j-(k+1),by omega,_,_,rfl,k+1,wrap_id _ (by omega),by omega,rfl,by omega,by rw[hc];simp⟩
   · rw[show end6 l j-k=0 by omega,kidF6,List.append_nil] at hc
     rw[hc];exact⟨trivial,rfl⟩
 · cases h
theorem kidF6_mem (l:List Bx) (d:Int):∀f k,∀x∈kidF6 l d f k,(k:Int)≤x∧x<(k+f:Nat)
 | 0,k=>by simp[kidF6]
 | f+1,k=>by
  intro x hx
  rw[kidF6,List.mem_append] at hx
  rcases hx with hx | hx
  · cases h:((l.getD k zBx).1==d) with
    | true=>rw[h,cond_true,List.mem_singleton] at hx;omega
    | false=>rw[h,cond_false] at hx;simp at hx
  · have:=kidF6_mem l d f (k+1) x hx;omega
theorem kidF6_len (l:List Bx) (d:Int):∀f k,(kidF6 l d f k).length≤f
 | 0,k=>by simp[kidF6]
 | f+1,k=>by
  have h:=kidF6_len l d f (k+1)
  rw[kidF6,List.length_append]
  cases ((l.getD k zBx).1==d) with
  | true=>simp only[cond_true,List.length_singleton];omega
  | false=>simp only[cond_false,List.length_nil];omega
theorem kids6_mem (l:List Bx) (i:Nat) (h:i<l.length):(∀x∈kids6 l i,(i:Int)<x∧x<(l.length:Int))∧(kids6 l i).length≤l.length:=by
 have he:=end6_le l i h
 have hl:=kidF6_len l (IntKind.i64.wrap ((l.getD i zBx).1+1)) (end6 l i-(i+1)) (i+1)
 refine⟨fun x hx => ?_,by unfold kids6;omega⟩
 have:=kidF6_mem l _ _ _ x hx
 omega
theorem drop_getD {α:Type} (xs:List α) (k:Nat) (h:k<xs.length) (d:α):xs.drop k=xs.getD k d::xs.drop (k+1):=by
 rw[List.drop_eq_getElem_cons h]
 simp[List.getD,List.getElem?_eq_getElem h]
theorem getD_memN {α:Type} (xs:List α) (k:Nat) (h:k<xs.length) (d:α):xs.getD k d∈xs:=by
 simp[List.getD,List.getElem?_eq_getElem h]
def consX3:Cons:=(76,con76)::consX2
def twosX3:Cons2:=twosX2
def pansX3:Cons3:=pansX2
def itersX3:Cons4:=itersX2
abbrev eX3:Env:=envOf4 consX3 twosX3 pansX3 itersX3
theorem allconsX3:∀c∈consX3,ConOk Tryz.prog c:=all_cons ok76 allconsX2
theorem alltwosX3:∀c∈twosX3,ConOk2 Tryz.prog c:=alltwosX2
theorem allpansX3:∀c∈pansX3,ConOk3 Tryz.prog c:=allpansX2
theorem allitersX3:∀c∈itersX3,ConOk4 Tryz.prog c:=allitersX2
theorem envX3:EnvOk Tryz.prog eX3:=envOf4_ok _ _ _ _ allconsX3 alltwosX3 allpansX3 allitersX3
def atomL (l:List Bx):List Int→Int→Int
 | [],_ => -1
 | i::r,n=>bif (l.getD i.toNat zBx).2.1==5 then (bif n==0 then i else atomL l r (IntKind.i64.wrap (n-1))) else atomL l r n
def con48:List AV→Option Tells
 | [.list 80 (.pair (.int .i64) (.pair (.int .i64) (.pair (.int .i64) (.pair (.int .i64) (.pair (.int .i64) (.pair (.int .i64) (.pair (.pair (.int .i64) (.pair (.int .i64) (.pair (.int .i64) (.int .i64)))) (.pair (.int .i64) (.pair (.int .i64) (.pair (.int .i64) (.int .i64))))))))))) l,.int .i64 i,.int .i64 n]=>some ⟨[0≤i,i<(l.length:Int),l.length≤4096],.int .i64 (blk (atomL l (kids6 l i.toNat) n)),[]⟩
 | _=>none
def f48_live1:List Nat:=[13,12,11,13,0,2,2,13,6]
def f48_head1 (l:List TB.den) (i:Int) (s2:Int) (s13:Int):St:={slots:=[AV.list 80 TB l,AV.undef,AV.int .i64 s2,AV.undef,AV.undef,AV.undef,AV.int .i64 0]++List.replicate 4 AV.undef++[AV.row 0,AV.int .i64 (↑(blk (kids6 l i.toNat)).length:Int),AV.int .i64 s13]++List.replicate 15 AV.undef,obs:=[Ob.row 3 KI (blk (kids6 l i.toNat))]}
def f48_q1 (R:AV→List Ob→Prop):Ex→St→Prop:=blockA 0 (seqQ tab eX3 (subC [1,1] (bodyOf Tryz.f48)) [6] (endA tab Tryz.f48 R))
def f48_loop1 (R:AV→List Ob→Prop) (l:List TB.den) (i:Int) (s2:Int) (s13:Int):Prop:=loopT f48_live1 (codeA tab eX3 (subC [1,0,1,0,0] (bodyOf Tryz.f48)) f48_live1) (f48_head1 l i s2 s13) (f48_q1 R)
def f48_rhs1 (R:AV→List Ob→Prop) (l:List TB.den) (i:Int) (J:St→Prop) (s2:Int) (s13:Int):Prop:=bif decide (s13<(↑(blk (kids6 l i.toNat)).length:Int)) then 0≤s13∧s13<(↑(blk (kids6 l i.toNat)).length:Int)∧0≤(blk (kids6 l i.toNat)).getD s13.toNat 0∧(blk (kids6 l i.toNat)).getD s13.toNat 0<(↑l.length:Int)∧bif (l.getD (Int.toNat ((blk (kids6 l i.toNat)).getD s13.toNat 0)) (0,0,0,0,0,0,(0,0,0,0),0,0,0,0)).snd.fst==5 then bif s2==0 then R (AV.int .i64 ((blk (kids6 l i.toNat)).getD s13.toNat 0)) [] else J (f48_head1 l i (IntKind.i64.wrap (s2-1)) (IntKind.i64.wrap (s13+1))) else J (f48_head1 l i s2 (IntKind.i64.wrap (s13+1))) else R (AV.int .i64 (-1)) []
theorem f48_eq1 (R:AV→List Ob→Prop) (l:List TB.den) (i:Int) (J:St→Prop) (s2:Int) (s13:Int):codeA tab eX3 (subC [1,0,1,0,0] (bodyOf Tryz.f48)) f48_live1 (f48_head1 l i s2 s13) (thenA (fun s=>J (St.tidy f48_live1 s)) (f48_q1 R))=f48_rhs1 R l i J s2 s13:=by kernel_rfl
set_option maxHeartbeats 2000000 in
theorem f48_rule1 (R:AV→List Ob→Prop) (l:List TB.den) (i:Int) (I:Nat→(Int)→(Int)→Prop) (n:Nat) (s2:Int) (s13:Int) (h0:I n s2 s13) (h:∀n,∀(s2:Int) (s13:Int),I n s2 s13→f48_rhs1 R l i (fun t=>∃m,m<n∧∃(s2:Int) (s13:Int),t=f48_head1 l i s2 s13∧I m s2 s13) s2 s13):f48_loop1 R l i s2 s13:=
 loop_intro (fun n t=>∃(s2:Int) (s13:Int),t=f48_head1 l i s2 s13∧I n s2 s13) n ⟨s2,s13,rfl,h0⟩ (fun n t ht=>by obtain⟨s2,s13,rfl,hI⟩:=ht;exact Eq.mpr (f48_eq1 R l i (fun t=>∃m,m<n∧∃(s2:Int) (s13:Int),t=f48_head1 l i s2 s13∧I m s2 s13) s2 s13) (h n s2 s13 hI))
theorem f48_run (R:AV→List Ob→Prop) (l:List TB.den) (i n:Int):fnA tab eX3 Tryz.f48 (bodyOf Tryz.f48) [.list 80 TB l,.int .i64 i,.int .i64 n] R=(0≤i∧i<(↑l.length:Int)∧l.length≤4096∧f48_loop1 R l i n 0):=by kernel_rfl
theorem ok48:ConOk Tryz.prog (48,con48):=by
 intro args t h hp
 change con48 args=some t at h
 unfold con48 at h
 split at h
 · rename_i l i n
   change List TB.den at l
   cases h
   refine fn_ok envX3 tab_ok mixed Tryz.func48 (by kernel_rfl) (by kernel_rfl) ?_
   rw[f48_run]
   try dsimp only
   have h0:=hp (0≤i) (by simp)
   have h1:=hp (i<(l.length:Int)) (by simp)
   have h2:=hp (l.length≤4096) (by simp)
   clear hp
   obtain⟨hks,hkl⟩:=kids6_mem l i.toNat (by omega)
   rw[blk_eq]
   refine⟨h0,h1,h2,?_⟩
   refine f48_rule1 _ l i (fun m s t=>∃k:Nat,t=k∧k≤(kids6 l i.toNat).length∧m=(kids6 l i.toNat).length-k∧atomL l (kids6 l i.toNat) n=atomL l ((kids6 l i.toNat).drop k) s) _ n 0 ⟨0,rfl,by omega,rfl,rfl⟩ ?_
   rintro m s t ⟨k,rfl,hk,rfl,hc⟩
   unfold f48_rhs1
   simp only[Int.toNat_natCast,blk_eq]
   refine dec_split (fun hlt => ?_) (fun hlt => ?_)
   · have hlt':k<(kids6 l i.toNat).length:=by omega
     obtain⟨b1,b2⟩:=hks _ (getD_memN _ k hlt' 0)
     rw[drop_getD _ k hlt' 0,atomL] at hc
     refine⟨by omega,hlt,by omega,b2,cond_split (fun hd => ?_) (fun hd => ?_)⟩
     · rw[show ((l.getD ((kids6 l i.toNat).getD k 0).toNat zBx).2.1==5)=true from hd,cond_true] at hc
       refine cond_split (fun hz => ?_) (fun hz => ?_)
       · rw[show (s==0)=true from hz,cond_true] at hc
         rw[hc];exact⟨rfl,trivial⟩
       · rw[show (s==0)=false from hz,cond_false] at hc
         exact⟨(kids6 l i.toNat).length-(k+1),by omega,_,_,rfl,k+1,wrap_id _ (by omega),by omega,rfl,hc⟩
     · rw[show ((l.getD ((kids6 l i.toNat).getD k 0).toNat zBx).2.1==5)=false from hd,cond_false] at hc
       exact⟨(kids6 l i.toNat).length-(k+1),by omega,_,_,rfl,k+1,wrap_id _ (by omega),by omega,rfl,hc⟩
   · rw[List.drop_of_length_le (by omega),atomL] at hc
     rw[hc];exact⟨rfl,trivial⟩
 · cases h
def consX4:Cons:=(48,con48)::(52,con52)::(27,con27)::consX3
def twosX4:Cons2:=twosX3
def pansX4:Cons3:=pansX3
def itersX4:Cons4:=itersX3
abbrev eX4:Env:=envOf4 consX4 twosX4 pansX4 itersX4
theorem allconsX4:∀c∈consX4,ConOk Tryz.prog c:=all_cons ok48 (all_cons ok52 (all_cons ok27 allconsX3))
theorem alltwosX4:∀c∈twosX4,ConOk2 Tryz.prog c:=alltwosX3
theorem allpansX4:∀c∈pansX4,ConOk3 Tryz.prog c:=allpansX3
theorem allitersX4:∀c∈itersX4,ConOk4 Tryz.prog c:=allitersX3
theorem envX4:EnvOk Tryz.prog eX4:=envOf4_ok _ _ _ _ allconsX4 alltwosX4 allpansX4 allitersX4
def rightF (l:List Bx) (n fi am:Int):Nat→Nat→Bool
 | 0,_=>false
 | f+1,k=>bif (bif atomL l (kids6 l n.toNat) k==fi then decide (fi≥0) else false) then decide (atomL l (kids6 l n.toNat) (IntKind.i64.wrap (IntKind.i64.wrap ((k:Int)+am)-1))≥0) else rightF l n fi am f (k+1)
def rightX (l:List Bx) (n:Ln):Bool:=bif !decide (n.1<0) then (bif !decide (n.1≥(l.length:Int)) then (bif !(l.getD n.1.toNat zBx).2.1 != 4 then (bif decide (n.2.2.2<1) then false else rightF l n.1 n.2.2.1 n.2.2.2 l.length 0) else false) else false) else false
def con24:List AV→Option Tells
 | [.list 80 (.pair (.int .i64) (.pair (.int .i64) (.pair (.int .i64) (.pair (.int .i64) (.pair (.int .i64) (.pair (.int .i64) (.pair (.pair (.int .i64) (.pair (.int .i64) (.pair (.int .i64) (.int .i64)))) (.pair (.int .i64) (.pair (.int .i64) (.pair (.int .i64) (.int .i64))))))))))) l,.agg (.cons (.int .i64 at') (.cons (.int .i64 a) (.cons (.int .i64 b) (.cons (.int .i64 c) (.cons (.int .i64 d) (.cons (.int .i64 fi) (.cons (.int .i64 am) .nl)))))))]=>some ⟨[l.length≤4096],.bool (blk (rightX l (at',(a,b,c,d),fi,am))),[]⟩
 | _=>none
def f24_live1:List Nat:=[5,0,0,3,5,3,3,0,3,5,3,5,4]
def f24_head1 (l:List TB.den) (at':Int) (a:Int) (b:Int) (c:Int) (d:Int) (fi:Int) (am:Int) (s5:Int):St:={slots:=[AV.list 80 TB l,AV.undef,AV.undef,AV.ptr 0 0,AV.bool false,AV.int .i64 s5]++List.replicate 53 AV.undef,obs:=[Ob.cells 48 [AV.int .i64 at',AV.int .i64 a,AV.int .i64 b,AV.int .i64 c,AV.int .i64 d,AV.int .i64 fi,AV.int .i64 am]]}
def f24_q1 (R:AV→List Ob→Prop):Ex→St→Prop:=blockA 0 (seqQ tab eX4 (subC [1,1,1] (bodyOf Tryz.f24)) [4] (endA tab Tryz.f24 R))
def f24_loop1 (R:AV→List Ob→Prop) (l:List TB.den) (at':Int) (a:Int) (b:Int) (c:Int) (d:Int) (fi:Int) (am:Int) (s5:Int):Prop:=loopT f24_live1 (codeA tab eX4 (subC [1,1,0,1,0,0] (bodyOf Tryz.f24)) f24_live1) (f24_head1 l at' a b c d fi am s5) (f24_q1 R)
def f24_rhs1 (R:AV→List Ob→Prop) (l:List TB.den) (at':Int) (a:Int) (b:Int) (c:Int) (d:Int) (fi:Int) (am:Int) (J:St→Prop) (s5:Int):Prop:=bif decide (s5<(↑l.length:Int)) then 0≤at'∧at'<(↑l.length:Int)∧l.length≤4096∧bif blk (atomL l (kids6 l at'.toNat) s5)==fi then bif decide (fi≥0) then 0≤at'∧at'<(↑l.length:Int)∧l.length≤4096∧R (AV.bool (decide (blk (atomL l (kids6 l at'.toNat) (IntKind.i64.wrap (IntKind.i64.wrap (s5+am)-1)))≥0))) [] else J (f24_head1 l at' a b c d fi am (IntKind.i64.wrap (s5+1))) else J (f24_head1 l at' a b c d fi am (IntKind.i64.wrap (s5+1))) else R (AV.bool false) []
theorem f24_eq1 (R:AV→List Ob→Prop) (l:List TB.den) (at':Int) (a:Int) (b:Int) (c:Int) (d:Int) (fi:Int) (am:Int) (J:St→Prop) (s5:Int):codeA tab eX4 (subC [1,1,0,1,0,0] (bodyOf Tryz.f24)) f24_live1 (f24_head1 l at' a b c d fi am s5) (thenA (fun s=>J (St.tidy f24_live1 s)) (f24_q1 R))=f24_rhs1 R l at' a b c d fi am J s5:=by kernel_rfl
set_option maxHeartbeats 2000000 in
theorem f24_rule1 (R:AV→List Ob→Prop) (l:List TB.den) (at':Int) (a:Int) (b:Int) (c:Int) (d:Int) (fi:Int) (am:Int) (I:Nat→(Int)→Prop) (n:Nat) (s5:Int) (h0:I n s5) (h:∀n,∀(s5:Int),I n s5→f24_rhs1 R l at' a b c d fi am (fun t=>∃m,m<n∧∃(s5:Int),t=f24_head1 l at' a b c d fi am s5∧I m s5) s5):f24_loop1 R l at' a b c d fi am s5:=
 loop_intro (fun n t=>∃(s5:Int),t=f24_head1 l at' a b c d fi am s5∧I n s5) n ⟨s5,rfl,h0⟩ (fun n t ht=>by obtain⟨s5,rfl,hI⟩:=ht;exact Eq.mpr (f24_eq1 R l at' a b c d fi am (fun t=>∃m,m<n∧∃(s5:Int),t=f24_head1 l at' a b c d fi am s5∧I m s5) s5) (h n s5 hI))
theorem f24_run (R:AV→List Ob→Prop) (l:List TB.den) (at' a b c d fi am:Int):fnA tab eX4 Tryz.f24 (bodyOf Tryz.f24) [.list 80 TB l,.agg (.cons (.int .i64 at') (.cons (.int .i64 a) (.cons (.int .i64 b) (.cons (.int .i64 c) (.cons (.int .i64 d) (.cons (.int .i64 fi) (.cons (.int .i64 am) .nl)))))))] R=(bif !decide (at'<0) then bif !decide (at'≥(↑l.length:Int)) then 0≤at'∧at'<(↑l.length:Int)∧bif !(l.getD at'.toNat (0,0,0,0,0,0,(0,0,0,0),0,0,0,0)).snd.fst != 4 then bif decide (am<1) then R (AV.bool false) [] else f24_loop1 R l at' a b c d fi am 0 else R (AV.bool false) [] else R (AV.bool false) [] else R (AV.bool false) []):=by kernel_rfl
theorem ok24:ConOk Tryz.prog (24,con24):=by
 intro args t h hp
 change con24 args=some t at h
 unfold con24 at h
 split at h
 · rename_i l at' a b c d fi am
   change List TB.den at l
   cases h
   refine fn_ok envX4 tab_ok mixed Tryz.func24 (by kernel_rfl) (by kernel_rfl) ?_
   rw[f24_run]
   try dsimp only
   have h2:=hp (l.length≤4096) (by simp)
   clear hp
   rw[blk_eq]
   have hx:rightX l (at',(a,b,c,d),fi,am)=bif !decide (at'<0) then (bif !decide (at'≥(l.length:Int)) then (bif !(l.getD at'.toNat zBx).2.1 != 4 then (bif decide (am<1) then false else rightF l at' fi am l.length 0) else false) else false) else false:=rfl
   rw[hx]
   clear hx
   refine cond_split (fun h => ?_) (fun h => ?_)
   rotate_left
   · rw[h];exact⟨rfl,rfl⟩
   rw[h,cond_true]
   have h0:0≤at':=by simp at h;omega
   refine cond_split (fun h => ?_) (fun h => ?_)
   rotate_left
   · rw[h];exact⟨rfl,rfl⟩
   rw[h,cond_true]
   have h1:at'<(l.length:Int):=by simp at h;omega
   refine⟨h0,h1,cond_split (fun h => ?_) (fun h => ?_)⟩
   rotate_left
   · rw[show (!(l.getD at'.toNat zBx).2.1 != 4)=false from h];exact⟨rfl,rfl⟩
   rw[show (!(l.getD at'.toNat zBx).2.1 != 4)=true from h,cond_true]
   refine cond_split (fun h => ?_) (fun h => ?_)
   · rw[h];exact⟨rfl,rfl⟩
   rw[h,cond_false]
   refine f24_rule1 _ l at' a b c d fi am (fun m s=>∃k:Nat,s=k∧k≤l.length∧m=l.length-k∧rightF l at' fi am l.length 0=rightF l at' fi am (l.length-k) k) _ 0 ⟨0,rfl,by omega,rfl,rfl⟩ ?_
   rintro m s ⟨k,rfl,hk,rfl,hc⟩
   unfold f24_rhs1
   refine dec_split (fun hlt=>⟨h0,h1,h2,?_⟩) (fun hlt => ?_)
   · rw[show l.length-k=(l.length-(k+1))+1 by omega,rightF] at hc
     rw[blk_eq]
     refine cond_split (fun hd => ?_) (fun hd => ?_)
     · rw[hd,cond_true] at hc
       refine cond_split (fun hz=>⟨h0,h1,h2,?_⟩) (fun hz => ?_)
       · rw[hz,cond_true] at hc
         rw[blk_eq,hc];exact⟨rfl,rfl⟩
       · rw[hz,cond_false] at hc
         exact⟨l.length-(k+1),by omega,_,rfl,k+1,wrap_id _ (by omega),by omega,rfl,hc⟩
     · rw[hd,cond_false,cond_false] at hc
       exact⟨l.length-(k+1),by omega,_,rfl,k+1,wrap_id _ (by omega),by omega,rfl,hc⟩
   · rw[show l.length-k=0 by omega,rightF] at hc
     rw[hc];exact⟨rfl,rfl⟩
 · cases h
def ahX (l:List Bx) (i at' c:Int):Bool:=bif decide (i>0) then (bif decide (i<at') then (bif (l.getD i.toNat zBx).2.1==2 then ctx6 l i==c else false) else false) else false
def con25:List AV→Option Tells
 | [.list 80 (.pair (.int .i64) (.pair (.int .i64) (.pair (.int .i64) (.pair (.int .i64) (.pair (.int .i64) (.pair (.int .i64) (.pair (.pair (.int .i64) (.pair (.int .i64) (.pair (.int .i64) (.int .i64)))) (.pair (.int .i64) (.pair (.int .i64) (.pair (.int .i64) (.int .i64))))))))))) l,.int .i64 i,.int .i64 at',.int .i64 c]=>some ⟨[0≤i,i<(l.length:Int),l.length≤4096],.bool (blk (ahX l i at' c)),[]⟩
 | _=>none
theorem f25_run (R:AV→List Ob→Prop) (l:List TB.den) (i at' c:Int):fnA tab eX4 Tryz.f25 (bodyOf Tryz.f25) [.list 80 TB l,.int .i64 i,.int .i64 at',.int .i64 c] R=(bif decide (i>0) then bif decide (i<at') then 0≤i∧i<(↑l.length:Int)∧bif (l.getD i.toNat (0,0,0,0,0,0,(0,0,0,0),0,0,0,0)).snd.fst==2 then 0≤i∧i<(↑l.length:Int)∧l.length≤4096∧R (AV.bool (blk (ctx6 l i)==c)) [] else R (AV.bool false) [] else R (AV.bool false) [] else R (AV.bool false) []):=by kernel_rfl
theorem ok25:ConOk Tryz.prog (25,con25):=by
 intro args t h hp
 change con25 args=some t at h
 unfold con25 at h
 split at h
 · rename_i l i at' c
   change List TB.den at l
   cases h
   refine fn_ok envX4 tab_ok mixed Tryz.func25 (by kernel_rfl) (by kernel_rfl) ?_
   rw[f25_run]
   try dsimp only
   have h0:=hp (0≤i) (by simp)
   have h1:=hp (i<(l.length:Int)) (by simp)
   have h2:=hp (l.length≤4096) (by simp)
   clear hp
   have hx:ahX l i at' c=bif decide (i>0) then (bif decide (i<at') then (bif (l.getD i.toNat zBx).2.1==2 then ctx6 l i==c else false) else false) else false:=rfl
   rw[blk_eq (ahX l i at' c),hx]
   clear hx
   refine cond_split (fun h => ?_) (fun h=>by rw[h];exact⟨rfl,rfl⟩)
   rw[h,cond_true]
   refine cond_split (fun h => ?_) (fun h=>by rw[h];exact⟨rfl,rfl⟩)
   rw[h,cond_true]
   refine⟨h0,h1,cond_split (fun h => ?_) (fun h=>by rw[show ((l.getD i.toNat zBx).2.1==2)=false from h];exact⟨rfl,rfl⟩)⟩
   rw[show ((l.getD i.toNat zBx).2.1==2)=true from h,blk_eq]
   exact⟨h0,h1,h2,rfl,rfl⟩
 · cases h
def mg6 (l:List Bx) (gs:List R4) (i:Int):R4:=mgW (l.getD i.toNat zBx) (gs.getD i.toNat (0,0,0,0))
def con28:List AV→Option Tells
 | [.list 80 (.pair (.int .i64) (.pair (.int .i64) (.pair (.int .i64) (.pair (.int .i64) (.pair (.int .i64) (.pair (.int .i64) (.pair (.pair (.int .i64) (.pair (.int .i64) (.pair (.int .i64) (.int .i64)))) (.pair (.int .i64) (.pair (.int .i64) (.pair (.int .i64) (.int .i64))))))))))) l,.agg (.cons (.list 46 (.pair (.int .i64) (.pair (.int .i64) (.pair (.int .i64) (.int .i64)))) gs) (.cons (.list 48 (.pair (.int .i64) (.pair (.pair (.int .i64) (.pair (.int .i64) (.pair (.int .i64) (.int .i64)))) (.pair (.int .i64) (.int .i64)))) gl) .nl)),.int .i64 i]=>some ⟨[0≤i,i<(l.length:Int),i<(gs.length:Int)],.agg (.cons (.int .i64 ((blk (mg6 l gs i)).1)) (.cons (.int .i64 ((blk (mg6 l gs i)).2.1)) (.cons (.int .i64 ((blk (mg6 l gs i)).2.2.1)) (.cons (.int .i64 ((blk (mg6 l gs i)).2.2.2)) .nl)))),[]⟩
 | _=>none
theorem f28_run (R:AV→List Ob→Prop) (l:List TB.den) (gs:List T4.den) (gl:List TL.den) (i:Int):fnA tab eX4 Tryz.f28 (bodyOf Tryz.f28) [.list 80 TB l,.agg (.cons (.list 46 T4 gs) (.cons (.list 48 TL gl) .nl)),.int .i64 i] R=(0≤i∧i<(↑gs.length:Int)∧0≤i∧i<(↑l.length:Int)∧R ((AV.int .i64 (IntKind.i64.wrap ((gs.getD i.toNat (0,0,0,0)).fst-(l.getD i.toNat (0,0,0,0,0,0,(0,0,0,0),0,0,0,0)).snd.snd.snd.snd.snd.snd.fst.snd.snd.snd))).cons ((AV.int .i64 (IntKind.i64.wrap ((gs.getD i.toNat (0,0,0,0)).snd.fst-(l.getD i.toNat (0,0,0,0,0,0,(0,0,0,0),0,0,0,0)).snd.snd.snd.snd.snd.snd.fst.fst))).cons ((AV.int .i64 (IntKind.i64.wrap ((gs.getD i.toNat (0,0,0,0)).snd.snd.fst+(l.getD i.toNat (0,0,0,0,0,0,(0,0,0,0),0,0,0,0)).snd.snd.snd.snd.snd.snd.fst.snd.fst))).cons ((AV.int .i64 (IntKind.i64.wrap ((gs.getD i.toNat (0,0,0,0)).snd.snd.snd+(l.getD i.toNat (0,0,0,0,0,0,(0,0,0,0),0,0,0,0)).snd.snd.snd.snd.snd.snd.fst.snd.snd.fst))).cons AV.nl)))).agg []):=by kernel_rfl
theorem ok28:ConOk Tryz.prog (28,con28):=by
 intro args t h hp
 change con28 args=some t at h
 unfold con28 at h
 split at h
 · rename_i l gs gl i
   change List TB.den at l
   change List T4.den at gs
   change List TL.den at gl
   cases h
   refine fn_ok envX4 tab_ok mixed Tryz.func28 (by kernel_rfl) (by kernel_rfl) ?_
   rw[f28_run]
   try dsimp only
   have h0:=hp (0≤i) (by simp)
   have h1:=hp (i<(l.length:Int)) (by simp)
   have h2:=hp (i<(gs.length:Int)) (by simp)
   clear hp
   rw[blk_eq]
   exact⟨h0,h2,h0,h1,rfl,rfl⟩
 · cases h
def consX5:Cons:=(28,con28)::(25,con25)::(24,con24)::consX4
def twosX5:Cons2:=twosX4
def pansX5:Cons3:=pansX4
def itersX5:Cons4:=itersX4
abbrev eX5:Env:=envOf4 consX5 twosX5 pansX5 itersX5
theorem allconsX5:∀c∈consX5,ConOk Tryz.prog c:=all_cons ok28 (all_cons ok25 (all_cons ok24 allconsX4))
theorem alltwosX5:∀c∈twosX5,ConOk2 Tryz.prog c:=alltwosX4
theorem allpansX5:∀c∈pansX5,ConOk3 Tryz.prog c:=allpansX4
theorem allitersX5:∀c∈itersX5,ConOk4 Tryz.prog c:=allitersX4
theorem envX5:EnvOk Tryz.prog eX5:=envOf4_ok _ _ _ _ allconsX5 alltwosX5 allpansX5 allitersX5
def sideX (l:List Bx) (gs:List R4) (i:Int):Bool:=bif (l.getD i.toNat zBx).2.2.1==1 then decide ((mg6 l gs i).1<IntKind.i64.wrap ((gs.getD (par6 l i).toNat (0,0,0,0)).1+(l.getD (par6 l i).toNat zBx).2.2.2.2.2.2.2.2.2.2)) else decide ((mg6 l gs i).2.2.1>IntKind.i64.wrap ((gs.getD (par6 l i).toNat (0,0,0,0)).2.2.1-(l.getD (par6 l i).toNat zBx).2.2.2.2.2.2.2.2.1))
def con29:List AV→Option Tells
 | [.list 80 (.pair (.int .i64) (.pair (.int .i64) (.pair (.int .i64) (.pair (.int .i64) (.pair (.int .i64) (.pair (.int .i64) (.pair (.pair (.int .i64) (.pair (.int .i64) (.pair (.int .i64) (.int .i64)))) (.pair (.int .i64) (.pair (.int .i64) (.pair (.int .i64) (.int .i64))))))))))) l,.agg (.cons (.list 46 (.pair (.int .i64) (.pair (.int .i64) (.pair (.int .i64) (.int .i64)))) gs) (.cons (.list 48 (.pair (.int .i64) (.pair (.pair (.int .i64) (.pair (.int .i64) (.pair (.int .i64) (.int .i64)))) (.pair (.int .i64) (.int .i64)))) gl) .nl)),.int .i64 i]=>some ⟨[0≤i,i<(l.length:Int),l.length≤4096,gs.length=l.length,0≤par6 l i],.bool (blk (sideX l gs i)),[]⟩
 | _=>none
set_option maxHeartbeats 2000000 in
theorem f29_run (R:AV→List Ob→Prop) (l:List TB.den) (gs:List T4.den) (gl:List TL.den) (i:Int):fnA tab eX5 Tryz.f29 (bodyOf Tryz.f29) [.list 80 TB l,.agg (.cons (.list 46 T4 gs) (.cons (.list 48 TL gl) .nl)),.int .i64 i] R=(0≤i∧i<(↑l.length:Int)∧i≤65536∧0≤i∧i<(↑l.length:Int)∧i<(↑gs.length:Int)∧0≤i∧i<(↑l.length:Int)∧bif (l.getD i.toNat (0,0,0,0,0,0,(0,0,0,0),0,0,0,0)).snd.snd.fst==1 then (0:Int)≤0∧(0:Int)<4∧0≤blk (parFrom l (IntKind.i64.wrap ((l.getD i.toNat zBx).fst-1)) i.toNat)∧blk (parFrom l (IntKind.i64.wrap ((l.getD i.toNat zBx).fst-1)) i.toNat)<(↑gs.length:Int)∧(0:Int)≤0∧(0:Int)<4∧0≤blk (parFrom l (IntKind.i64.wrap ((l.getD i.toNat zBx).fst-1)) i.toNat)∧blk (parFrom l (IntKind.i64.wrap ((l.getD i.toNat zBx).fst-1)) i.toNat)<(↑l.length:Int)∧(0:Int)≤3∧(3:Int)<4∧R (AV.bool (decide ((blk (mg6 l gs i)).fst<IntKind.i64.wrap ((gs.getD (blk (parFrom l (IntKind.i64.wrap ((l.getD i.toNat zBx).fst-1)) i.toNat)).toNat (0,0,0,0)).fst+(l.getD (blk (parFrom l (IntKind.i64.wrap ((l.getD i.toNat zBx).fst-1)) i.toNat)).toNat (0,0,0,0,0,0,(0,0,0,0),0,0,0,0)).snd.snd.snd.snd.snd.snd.snd.snd.snd.snd)))) [] else (0:Int)≤2∧(2:Int)<4∧0≤blk (parFrom l (IntKind.i64.wrap ((l.getD i.toNat zBx).fst-1)) i.toNat)∧blk (parFrom l (IntKind.i64.wrap ((l.getD i.toNat zBx).fst-1)) i.toNat)<(↑gs.length:Int)∧(0:Int)≤2∧(2:Int)<4∧0≤blk (parFrom l (IntKind.i64.wrap ((l.getD i.toNat zBx).fst-1)) i.toNat)∧blk (parFrom l (IntKind.i64.wrap ((l.getD i.toNat zBx).fst-1)) i.toNat)<(↑l.length:Int)∧(0:Int)≤1∧(1:Int)<4∧R (AV.bool (decide ((blk (mg6 l gs i)).snd.snd.fst>IntKind.i64.wrap ((gs.getD (blk (parFrom l (IntKind.i64.wrap ((l.getD i.toNat zBx).fst-1)) i.toNat)).toNat (0,0,0,0)).snd.snd.fst-(l.getD (blk (parFrom l (IntKind.i64.wrap ((l.getD i.toNat zBx).fst-1)) i.toNat)).toNat (0,0,0,0,0,0,(0,0,0,0),0,0,0,0)).snd.snd.snd.snd.snd.snd.snd.snd.fst)))) []):=by kernel_rfl
theorem ok29:ConOk Tryz.prog (29,con29):=by
 intro args t h hp
 change con29 args=some t at h
 unfold con29 at h
 split at h
 · rename_i l gs gl i
   change List TB.den at l
   change List T4.den at gs
   change List TL.den at gl
   cases h
   refine fn_ok envX5 tab_ok mixed Tryz.func29 (by kernel_rfl) (by kernel_rfl) ?_
   rw[f29_run]
   try dsimp only
   have h0:=hp (0≤i) (by simp)
   have h1:=hp (i<(l.length:Int)) (by simp)
   have h2:=hp (l.length≤4096) (by simp)
   have h3:=hp (gs.length=l.length) (by simp)
   have h4:=hp (0≤par6 l i) (by simp)
   clear hp
   have h5:=parFrom_lt l (IntKind.i64.wrap ((l.getD i.toNat zBx).1-1)) i.toNat
   have h4:0≤parFrom l (IntKind.i64.wrap ((l.getD i.toNat zBx).1-1)) i.toNat:=h4
   rw[blk_eq (sideX l gs i),blk_eq,blk_eq]
   refine⟨h0,h1,by omega,h0,h1,by omega,h0,h1,cond_split (fun h => ?_) (fun h => ?_)⟩
   · refine⟨by omega,by omega,h4,by omega,by omega,by omega,h4,by omega,by omega,by omega,?_,rfl⟩
     unfold sideX
     rw[show ((l.getD i.toNat zBx).2.2.1==1)=true from h]
     rfl
   · refine⟨by omega,by omega,h4,by omega,by omega,by omega,h4,by omega,by omega,by omega,?_,rfl⟩
     unfold sideX
     rw[show ((l.getD i.toNat zBx).2.2.1==1)=false from h]
     rfl
 · cases h
def clr6 (c s:Int):Bool:=bif !c==3 then (bif c != 0 then c==s else false) else true
def pairX (l:List Bx) (gs:List R4) (rule at' i:Int):Bool:=
 bif rule==7 then (bif (l.getD at'.toNat zBx).2.1==3 then meet6 (gs.getD at'.toNat (0,0,0,0)) (mg6 l gs i) else false) else
 bif (l.getD at'.toNat zBx).2.1 != 2 then false else
 bif rule==2 then meet6 (mg6 l gs at') (mg6 l gs i) else
 bif rule==3 then decide ((mg6 l gs at').2.1<(mg6 l gs i).2.1) else
 bif rule==5 then (bif clr6 (l.getD at'.toNat zBx).2.2.2.1 (l.getD i.toNat zBx).2.2.1 then decide ((mg6 l gs at').2.1<(mg6 l gs i).2.2.2) else false) else false
def con31:List AV→Option Tells
 | [.list 80 (.pair (.int .i64) (.pair (.int .i64) (.pair (.int .i64) (.pair (.int .i64) (.pair (.int .i64) (.pair (.int .i64) (.pair (.pair (.int .i64) (.pair (.int .i64) (.pair (.int .i64) (.int .i64)))) (.pair (.int .i64) (.pair (.int .i64) (.pair (.int .i64) (.int .i64))))))))))) l,.agg (.cons (.list 46 (.pair (.int .i64) (.pair (.int .i64) (.pair (.int .i64) (.int .i64)))) gs) (.cons (.list 48 (.pair (.int .i64) (.pair (.pair (.int .i64) (.pair (.int .i64) (.pair (.int .i64) (.int .i64)))) (.pair (.int .i64) (.int .i64)))) gl) .nl)),.int .i64 rule,.int .i64 at',.int .i64 i]=>some ⟨[0≤i,i<(l.length:Int),0≤at',at'<(l.length:Int),l.length≤4096,gs.length=l.length],.bool (blk (pairX l gs rule at' i)),[]⟩
 | _=>none
set_option maxHeartbeats 2000000 in
theorem f31_run (R:AV→List Ob→Prop) (l:List TB.den) (gs:List T4.den) (gl:List TL.den) (rule at' i:Int):fnA tab eX5 Tryz.f31 (bodyOf Tryz.f31) [.list 80 TB l,.agg (.cons (.list 46 T4 gs) (.cons (.list 48 TL gl) .nl)),.int .i64 rule,.int .i64 at',.int .i64 i] R=(0≤i∧i<(↑l.length:Int)∧i<(↑gs.length:Int)∧bif rule==7 then 0≤at'∧at'<(↑l.length:Int)∧bif (l.getD at'.toNat (0,0,0,0,0,0,(0,0,0,0),0,0,0,0)).snd.fst==3 then 0≤at'∧at'<(↑gs.length:Int)∧R (AV.bool (blk (meet6 ((gs.getD at'.toNat (0,0,0,0)).fst,(gs.getD at'.toNat (0,0,0,0)).snd.fst,(gs.getD at'.toNat (0,0,0,0)).snd.snd.fst,(gs.getD at'.toNat (0,0,0,0)).snd.snd.snd) ((blk (mg6 l gs i)).fst,(blk (mg6 l gs i)).snd.fst,(blk (mg6 l gs i)).snd.snd.fst,(blk (mg6 l gs i)).snd.snd.snd)))) [] else R (AV.bool false) [] else 0≤at'∧at'<(↑l.length:Int)∧bif (l.getD at'.toNat (0,0,0,0,0,0,(0,0,0,0),0,0,0,0)).snd.fst != 2 then R (AV.bool false) [] else 0≤at'∧at'<(↑l.length:Int)∧at'<(↑gs.length:Int)∧bif rule==2 then R (AV.bool (blk (meet6 ((blk (mg6 l gs at')).fst,(blk (mg6 l gs at')).snd.fst,(blk (mg6 l gs at')).snd.snd.fst,(blk (mg6 l gs at')).snd.snd.snd) ((blk (mg6 l gs i)).fst,(blk (mg6 l gs i)).snd.fst,(blk (mg6 l gs i)).snd.snd.fst,(blk (mg6 l gs i)).snd.snd.snd)))) [] else bif rule==3 then (0:Int)≤1∧(1:Int)<4∧(0:Int)≤1∧(1:Int)<4∧R (AV.bool (decide ((blk (mg6 l gs at')).snd.fst<(blk (mg6 l gs i)).snd.fst))) [] else bif rule==5 then 0≤at'∧at'<(↑l.length:Int)∧0≤i∧i<(↑l.length:Int)∧bif bif !(l.getD at'.toNat (0,0,0,0,0,0,(0,0,0,0),0,0,0,0)).snd.snd.snd.fst==3 then bif (l.getD at'.toNat (0,0,0,0,0,0,(0,0,0,0),0,0,0,0)).snd.snd.snd.fst != 0 then (l.getD at'.toNat (0,0,0,0,0,0,(0,0,0,0),0,0,0,0)).snd.snd.snd.fst==(l.getD i.toNat (0,0,0,0,0,0,(0,0,0,0),0,0,0,0)).snd.snd.fst else false else true then (0:Int)≤1∧(1:Int)<4∧(0:Int)≤3∧(3:Int)<4∧R (AV.bool (decide ((blk (mg6 l gs at')).snd.fst<(blk (mg6 l gs i)).snd.snd.snd))) [] else R (AV.bool false) [] else R (AV.bool false) []):=by kernel_rfl
theorem ok31:ConOk Tryz.prog (31,con31):=by
 intro args t h hp
 change con31 args=some t at h
 unfold con31 at h
 split at h
 · rename_i l gs gl rule at' i
   change List TB.den at l
   change List T4.den at gs
   change List TL.den at gl
   cases h
   refine fn_ok envX5 tab_ok mixed Tryz.func31 (by kernel_rfl) (by kernel_rfl) ?_
   rw[f31_run]
   try dsimp only
   have h0:=hp (0≤i) (by simp)
   have h1:=hp (i<(l.length:Int)) (by simp)
   have a0:=hp (0≤at') (by simp)
   have a1:=hp (at'<(l.length:Int)) (by simp)
   have h2:=hp (l.length≤4096) (by simp)
   have h3:=hp (gs.length=l.length) (by simp)
   clear hp
   simp only[blk_eq]
   unfold pairX
   refine⟨h0,h1,by omega,cond_split (fun h => ?_) (fun h => ?_)⟩
   · rw[h,cond_true]
     refine⟨a0,a1,cond_split (fun h => ?_) (fun h => ?_)⟩
     · rw[show ((l.getD at'.toNat zBx).2.1==3)=true from h];exact⟨a0,by omega,rfl,trivial⟩
     · rw[show ((l.getD at'.toNat zBx).2.1==3)=false from h];exact⟨rfl,trivial⟩
   rw[h,cond_false]
   refine⟨a0,a1,cond_split (fun h=>by rw[show ((l.getD at'.toNat zBx).2.1 != 2)=true from h];exact⟨rfl,trivial⟩) (fun h => ?_)⟩
   rw[show ((l.getD at'.toNat zBx).2.1 != 2)=false from h,cond_false]
   refine⟨a0,a1,by omega,cond_split (fun h=>by rw[h];exact⟨rfl,trivial⟩) (fun h => ?_)⟩
   rw[h,cond_false]
   refine cond_split (fun h=>by rw[h];exact⟨by omega,by omega,by omega,by omega,rfl,trivial⟩) (fun h => ?_)
   rw[h,cond_false]
   refine cond_split (fun h => ?_) (fun h=>by rw[h];exact⟨rfl,trivial⟩)
   rw[h,cond_true]
   refine⟨a0,a1,h0,h1,cond_split (fun h => ?_) (fun h => ?_)⟩
   · rw[show clr6 (l.getD at'.toNat zBx).2.2.2.1 (l.getD i.toNat zBx).2.2.1=true from h];exact⟨by omega,by omega,by omega,by omega,rfl,trivial⟩
   · rw[show clr6 (l.getD at'.toNat zBx).2.2.2.1 (l.getD i.toNat zBx).2.2.1=false from h];exact⟨rfl,trivial⟩
 · cases h
end
end Go.Proofs.YtkpjcmiijlpcaaaGreat.W
