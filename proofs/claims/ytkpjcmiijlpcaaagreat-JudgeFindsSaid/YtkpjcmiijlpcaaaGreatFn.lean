/- Layer 20's statements: where they begin. -/
import Derived.Test.YtkpjcmiijlpcaaaGreatEa
import Derived.Test.YtkpjcmiijlpcaaaGreatAwAF
import Derived.Test.YtkpjcmiijlpcaaaGreatAwAH
import Derived.Test.YtkpjcmiijlpcaaaGreatFd
import Derived.Test.YtkpjcmiijlpcaaaGreatFe
import Derived.Test.YtkpjcmiijlpcaaaGreatFh
import Derived.Test.YtkpjcmiijlpcaaaGreatFi
import Derived.Test.YtkpjcmiijlpcaaaGreatFk
import Derived.Test.YtkpjcmiijlpcaaaGreatPc
import Derived.Test.YtkpjcmiijlpcaaaGreatAwAI
import Derived.Test.YtkpjcmiijlpcaaaGreatFm
import Derived.KernelRfl
set_option linter.unusedVariables false
set_option linter.unusedSimpArgs false
namespace Go.Proofs.YtkpjcmiijlpcaaaGreat.W
open Go Go.Proofs Go.Proofs.YtkpjcmiijlpcaaaGreat.Aw
noncomputable section
def consC0:Cons:=(34,con34)::(9,con9)::[]
def twosC0:Cons2:=(11,con11_b)::(6,con6)::[]
def pansC0:Cons3:=[]
def itersC0:Cons4:=[]
abbrev eC0:Env:=envOf4 consC0 twosC0 pansC0 itersC0
theorem allconsC0:∀c∈consC0,ConOk Tryz.prog c:=all_cons ok34 (all_cons ok9 all_nil)
theorem alltwosC0:∀c∈twosC0,ConOk2 Tryz.prog c:=all_cons ok11_b (all_cons ok6 all_nil)
theorem allpansC0:∀c∈pansC0,ConOk3 Tryz.prog c:=all_nil
theorem allitersC0:∀c∈itersC0,ConOk4 Tryz.prog c:=all_nil
theorem envC0:EnvOk Tryz.prog eC0:=envOf4_ok _ _ _ _ allconsC0 alltwosC0 allpansC0 allitersC0
def con10:List AV→Option Tells
 | [.list 80 (.pair (.int .i64) (.pair (.int .i64) (.pair (.int .i64) (.pair (.int .i64) (.pair (.int .i64) (.pair (.int .i64) (.pair (.pair (.int .i64) (.pair (.int .i64) (.pair (.int .i64) (.int .i64)))) (.pair (.int .i64) (.pair (.int .i64) (.pair (.int .i64) (.int .i64))))))))))) l]=>some ⟨[l.length≤4096,0<l.length,(buildN l 0 ([],[])).isSome=true],.lptr 88 (.list 92 TN) [((buildN l 0 ([],[])).getD [])] 0 0,[]⟩
 | _=>none
theorem f10_run (R:AV→List Ob→Prop) (l:List TB.den):fnA tab eC0 Tryz.f10 (bodyOf Tryz.f10) [.list 80 TB l] R=(l.length≤4096∧l.length≤65536∧0<l.length∧(buildN l 0 ([],[])).isSome=true∧R (AV.lptr 88 (Ty.list 92 TN) [(buildN l 0 ([],[])).getD []] 0 0) []):=by kernel_rfl
theorem ok10:ConOk Tryz.prog (10,con10):=by
 intro args t h hp
 change con10 args=some t at h
 unfold con10 at h
 split at h
 · rename_i l
   change List TB.den at l
   cases h
   refine fn_ok envC0 tab_ok mixed Tryz.func10 (by kernel_rfl) (by kernel_rfl) ?_
   rw[f10_run]
   try dsimp only
   have hx:=hp (l.length≤4096) (by simp)
   have hl0:=hp (0<l.length) (by simp)
   have hb:=hp ((buildN l 0 ([],[])).isSome=true) (by simp)
   exact⟨hx,by omega,hl0,hb,rfl,rfl⟩
 · cases h
abbrev ex0:Bx:=(0,3,0,0,9,0,(0,0,0,0),0,0,0,0)
abbrev ex1:Bx:=(1,2,1,0,1,1,(0,0,0,0),0,0,0,0)
abbrev exT:List Nd:=[(ex0,-1,3,0,[1,2]),(ex1,0,2,0,[]),(ex1,0,3,0,[])]
theorem chkN_of {xs:List Nd} {b:Bx} {p:Int} (h:OkBx b.1 b.2.1 b.2.2.1 b.2.2.2.1 b.2.2.2.2.1 b.2.2.2.2.2.1 b.2.2.2.2.2.2.1.1 b.2.2.2.2.2.2.1.2.1 b.2.2.2.2.2.2.1.2.2.1 b.2.2.2.2.2.2.1.2.2.2 b.2.2.2.2.2.2.2.1 b.2.2.2.2.2.2.2.2.1 b.2.2.2.2.2.2.2.2.2.1 b.2.2.2.2.2.2.2.2.2.2) :
 chkN xs b p=bif (xs.length:Int)==65536 then 3 else bif (bif (xs.length:Int)==0 then rootB b.1 b.2.1 b.2.2.2.1 b.2.2.2.2.1 b.2.2.2.2.2.2.1.1 b.2.2.2.2.2.2.1.2.1 b.2.2.2.2.2.2.1.2.2.1 b.2.2.2.2.2.2.1.2.2.2 else bif decide (p≥0) then fitsB (xs.getD p.toNat zNd).1.2.1 b.2.1 else false) then 0 else 12:=by
 unfold chkN chkT
 rw[chkB_ok h]
 rfl
theorem ex_ok0:OkBx 0 3 0 0 9 0 0 0 0 0 0 0 0 0:=⟨by decide,by decide,by decide,by decide,by decide,by decide,by decide,by decide⟩
theorem ex_ok1:OkBx 1 2 1 0 1 1 0 0 0 0 0 0 0 0:=⟨by decide,by decide,by decide,by decide,by decide,by decide,by decide,by decide⟩
theorem ex_build:buildN [ex0,ex1,ex1] 0 ([],[])=some exT:=by
 have h0:chkN [] ex0 (parN [] ex0.1)=0:=by rw[chkN_of ex_ok0];rfl
 have h1:chkN (stepN ([],[]) ex0 0).1 ex1 (parN (stepN ([],[]) ex0 0).2 ex1.1)=0:=by rw[chkN_of ex_ok1];rfl
 have h2:chkN (stepN (stepN ([],[]) ex0 0) ex1 1).1 ex1 (parN (stepN (stepN ([],[]) ex0 0) ex1 1).2 ex1.1)=0:=by rw[chkN_of ex_ok1];rfl
 simp only[buildN]
 rw[h0]
 simp only[bne_self_eq_false,cond_false]
 rw[h1]
 simp only[bne_self_eq_false,cond_false]
 rw[h2]
 rfl
theorem ex_tr:TrOk exT:=trOk_of ex_build (by decide) (by decide)
theorem ex_mem:memL exT 0=[1,2]:=by
 obtain⟨_,_,t⟩:=tree_of ex_build (by decide)
 rw[(ctx_walk t (by decide) 0).2]
 rfl
theorem ex_judge:judgeL exT [(0,0,9,0),(0,0,1,1),(0,0,1,1)] []=[(2,2,1)]:=by
 have f1:fltL exT (ndAt exT 1).2.2.2.1 1=[]:=by
  show (memL exT 0).filter _=_
  rw[ex_mem];rfl
 have f2:fltL exT (ndAt exT 2).2.2.2.1 2=[1]:=by
  show (memL exT 0).filter _=_
  rw[ex_mem];rfl
 have g1:flL exT [(0,0,9,0),(0,0,1,1),(0,0,1,1)] 1 []=[]:=by
  unfold flL;rw[f1];rfl
 have g2:flL exT [(0,0,9,0),(0,0,1,1),(0,0,1,1)] 2 []=[(2,2,1)]:=by
  unfold flL;rw[f2];rfl
 show flL exT [(0,0,9,0),(0,0,1,1),(0,0,1,1)] 2 (flL exT [(0,0,9,0),(0,0,1,1),(0,0,1,1)] 1 [])=_
 rw[g1,g2]
theorem ex_judgeA:judgeA exT [(0,0,9,0),(0,0,1,1),(0,0,1,1)] []=[(2,2,1)]:=by
 unfold judgeA
 rw[if_pos (by decide),ex_judge]
 simp[srtF]
def con5:List AV→Option Tells
 | []=>some ⟨[],.bool true,[]⟩
 | _=>none
set_option maxHeartbeats 2000000 in
theorem f5_run (R:AV→List Ob→Prop):fnA tab eC0 Tryz.f5 (bodyOf Tryz.f5) [] R=(Nat.le 3 65536∧Nat.le 1 3∧(buildN [(0,3,0,0,9,0,(0,0,0,0),0,0,0,0),(1,2,1,0,1,1,(0,0,0,0),0,0,0,0),(1,2,1,0,1,1,(0,0,0,0),0,0,0,0)] 0 ([],[])).isSome=true∧TrOk ((buildN [(0,3,0,0,9,0,(0,0,0,0),0,0,0,0),(1,2,1,0,1,1,(0,0,0,0),0,0,0,0),(1,2,1,0,1,1,(0,0,0,0),0,0,0,0)] 0 ([],[])).getD [])∧0<((buildN [(0,3,0,0,9,0,(0,0,0,0),0,0,0,0),(1,2,1,0,1,1,(0,0,0,0),0,0,0,0),(1,2,1,0,1,1,(0,0,0,0),0,0,0,0)] 0 ([],[])).getD []).length∧Nat.le 0 65536∧bif (↑(blk (judgeA ((buildN [(0,3,0,0,9,0,(0,0,0,0),0,0,0,0),(1,2,1,0,1,1,(0,0,0,0),0,0,0,0),(1,2,1,0,1,1,(0,0,0,0),0,0,0,0)] 0 ([],[])).getD []) [(0,0,9,0),(0,0,1,1),(0,0,1,1)] [])).length:Int)==1 then (0:Int)≤0∧0<(↑(blk (judgeA ((buildN [(0,3,0,0,9,0,(0,0,0,0),0,0,0,0),(1,2,1,0,1,1,(0,0,0,0),0,0,0,0),(1,2,1,0,1,1,(0,0,0,0),0,0,0,0)] 0 ([],[])).getD []) [(0,0,9,0),(0,0,1,1),(0,0,1,1)] [])).length:Int)∧R (AV.bool (((blk (judgeA ((buildN [(0,3,0,0,9,0,(0,0,0,0),0,0,0,0),(1,2,1,0,1,1,(0,0,0,0),0,0,0,0),(1,2,1,0,1,1,(0,0,0,0),0,0,0,0)] 0 ([],[])).getD []) [(0,0,9,0),(0,0,1,1),(0,0,1,1)] [])).getD 0 (0,0,0)).fst==2&&(((blk (judgeA ((buildN [(0,3,0,0,9,0,(0,0,0,0),0,0,0,0),(1,2,1,0,1,1,(0,0,0,0),0,0,0,0),(1,2,1,0,1,1,(0,0,0,0),0,0,0,0)] 0 ([],[])).getD []) [(0,0,9,0),(0,0,1,1),(0,0,1,1)] [])).getD 0 (0,0,0)).snd.fst==2&&(((blk (judgeA ((buildN [(0,3,0,0,9,0,(0,0,0,0),0,0,0,0),(1,2,1,0,1,1,(0,0,0,0),0,0,0,0),(1,2,1,0,1,1,(0,0,0,0),0,0,0,0)] 0 ([],[])).getD []) [(0,0,9,0),(0,0,1,1),(0,0,1,1)] [])).getD 0 (0,0,0)).snd.snd==1&&true)))) [] else R (AV.bool false) []):=by kernel_rfl
theorem ok5:ConOk Tryz.prog (5,con5):=by
 intro args t h hp
 change con5 args=some t at h
 unfold con5 at h
 split at h
 · skip
   cases h
   refine fn_ok envC0 tab_ok mixed Tryz.func5 (by kernel_rfl) (by kernel_rfl) ?_
   rw[f5_run]
   try dsimp only
   rw[blk_eq]
   have hz:(buildN [(0,3,0,0,9,0,(0,0,0,0),0,0,0,0),(1,2,1,0,1,1,(0,0,0,0),0,0,0,0),(1,2,1,0,1,1,(0,0,0,0),0,0,0,0)] 0 ([],[]))=some exT:=ex_build
   rw[hz]
   refine⟨(show (3:Nat)≤65536 by decide),(show (1:Nat)≤3 by decide),rfl,ex_tr,by decide,(show (0:Nat)≤65536 by decide),?_⟩
   show bif ((judgeA exT [(0,0,9,0),(0,0,1,1),(0,0,1,1)] []).length:Int)==1 then _ else _
   have e:(some exT).getD []=exT:=rfl
   rw[e,ex_judgeA]
   exact⟨by decide,by decide,rfl,rfl⟩
 · cases h
def consC1:Cons:=(10,con10)::(5,con5)::consC0
def twosC1:Cons2:=twosC0
def pansC1:Cons3:=pansC0
def itersC1:Cons4:=itersC0
abbrev eC1:Env:=envOf4 consC1 twosC1 pansC1 itersC1
theorem allconsC1:∀c∈consC1,ConOk Tryz.prog c:=all_cons ok10 (all_cons ok5 allconsC0)
theorem alltwosC1:∀c∈twosC1,ConOk2 Tryz.prog c:=alltwosC0
theorem allpansC1:∀c∈pansC1,ConOk3 Tryz.prog c:=allpansC0
theorem allitersC1:∀c∈itersC1,ConOk4 Tryz.prog c:=allitersC0
theorem envC1:EnvOk Tryz.prog eC1:=envOf4_ok _ _ _ _ allconsC1 alltwosC1 allpansC1 allitersC1
def badN (n:Int):Bool:=bif !decide (n>288230376151711744) then decide (n < -288230376151711744) else true
def badR (r:R4):Bool:=badN r.1||(badN r.2.1||(badN r.2.2.1||badN r.2.2.2))
def begBad (l:List Bx) (gs:List R4) (gl:List Ln) (most:Int):Bool:=(chk6 l).2 != 0||(decide ((l.length:Int)>most)||(decide ((gs.length:Int)>2*most)||(decide ((gl.length:Int)>2*most)||(gs.any badR||gl.any fun x=>badR x.2.1))))
theorem badR_split {K3 K1:Prop} (r:R4) (h1:badR r=true→K1) (h3:badR r=false→K3):bif !decide (r.1>288230376151711744) then bif decide (r.1 < -288230376151711744) then K1 else bif !decide (r.2.1>288230376151711744) then bif decide (r.2.1 < -288230376151711744) then K1 else bif !decide (r.2.2.1>288230376151711744) then bif decide (r.2.2.1 < -288230376151711744) then K1 else bif !decide (r.2.2.2>288230376151711744) then bif decide (r.2.2.2 < -288230376151711744) then K1 else K3 else K1 else K1 else K1 else K1:=by
 unfold badR badN at h1 h3
 generalize decide (r.1>288230376151711744)=a1 at *
 generalize decide (r.1 < -288230376151711744)=a2 at *
 generalize decide (r.2.1>288230376151711744)=b1 at *
 generalize decide (r.2.1 < -288230376151711744)=b2 at *
 generalize decide (r.2.2.1>288230376151711744)=c1 at *
 generalize decide (r.2.2.1 < -288230376151711744)=c2 at *
 generalize decide (r.2.2.2>288230376151711744)=d1 at *
 generalize decide (r.2.2.2 < -288230376151711744)=d2 at *
 cases a1<;>cases a2<;>cases b1<;>cases b2<;>cases c1<;>cases c2<;>cases d1<;>cases d2<;>first | exact h1 rfl | exact h3 rfl
theorem any_next {α:Type} {l:List α} {p:α→Bool} {d:α} {k:Nat} (hk:k<l.length) (h:(l.take k).any p=false) (hp:p (l.getD k d)=false):(l.take (k+1)).any p=false:=by
 rw[take_next l k hk,List.any_append,h,←getD_nat' l d k hk]
 show (false||(p (l.getD k d)||false))=false
 rw[hp];rfl
theorem any_here {α:Type} {l:List α} {p:α→Bool} {d:α} {k:Nat} (hk:k<l.length) (hp:p (l.getD k d)=true):l.any p=true:=by
 rw[getD_nat' l d k hk] at hp
 exact List.any_eq_true.2 ⟨_,List.getElem_mem hk,hp⟩
def con4_n:List AV→Option Tells
 | [.list 80 (.pair (.int .i64) (.pair (.int .i64) (.pair (.int .i64) (.pair (.int .i64) (.pair (.int .i64) (.pair (.int .i64) (.pair (.pair (.int .i64) (.pair (.int .i64) (.pair (.int .i64) (.int .i64)))) (.pair (.int .i64) (.pair (.int .i64) (.pair (.int .i64) (.int .i64))))))))))) l,.agg (.cons (.list 46 (.pair (.int .i64) (.pair (.int .i64) (.pair (.int .i64) (.int .i64)))) gs) (.cons (.list 48 (.pair (.int .i64) (.pair (.pair (.int .i64) (.pair (.int .i64) (.pair (.int .i64) (.int .i64)))) (.pair (.int .i64) (.int .i64)))) gl) .nl)),.int .i64 most]=>some ⟨[begBad l gs gl most=true,0≤most,most≤1000],.nilp,[]⟩
 | _=>none
def f4_n_cuts:List Nat:=[4]
def f4_n_j1 (R:AV→List Ob→Prop) (l:List TB.den) (gs:List T4.den) (gl:List TL.den) (most:Int):Prop:=Meet (fun s=>codeA tab (eC1.cut f4_n_cuts) (subC [1,0,1,1] (bodyOf Tryz.f4)) [4,4,0,6] s (seqQ tab (eC1.cut f4_n_cuts) (subC [1,1] (bodyOf Tryz.f4)) [6] (endA tab Tryz.f4 R))) {slots:=[AV.list 80 TB l,AV.undef,AV.undef,AV.undef,AV.ptr 0 0,AV.undef,AV.nilp]++List.replicate 38 AV.undef++[AV.bool (decide ((↑gl.length:Int)>IntKind.i64.wrap (2*most)))]++List.replicate 41 AV.undef,obs:=[Ob.cells 26 [AV.list 46 T4 gs,AV.list 48 (KI.pair (T4.pair (KI.pair KI))) gl]]}
def f4_n_live2:List Nat:=[49,48,47,49,49,4,0,6]
def f4_n_head2 (l:List TB.den) (gs:List T4.den) (gl:List TL.den) (s49:Int):St:={slots:=[AV.list 80 TB l,AV.undef,AV.undef,AV.undef,AV.ptr 0 0,AV.undef,AV.nilp]++List.replicate 40 AV.undef++[AV.list 46 T4 gs,AV.int .i64 (↑gs.length:Int),AV.int .i64 s49]++List.replicate 37 AV.undef,obs:=[Ob.cells 26 [AV.list 46 T4 gs,AV.list 48 (KI.pair (T4.pair (KI.pair KI))) gl]]}
def f4_n_q2 (R:AV→List Ob→Prop):Ex→St→Prop:=blockA 0 (seqQ tab (eC1.cut f4_n_cuts) (subC [1,1,1] (bodyOf Tryz.f4)) [6] (endA tab Tryz.f4 R))
def f4_n_loop2 (R:AV→List Ob→Prop) (l:List TB.den) (gs:List T4.den) (gl:List TL.den) (s49:Int):Prop:=loopT f4_n_live2 (codeA tab (eC1.cut f4_n_cuts) (subC [1,1,0,1,0,0] (bodyOf Tryz.f4)) f4_n_live2) (f4_n_head2 l gs gl s49) (f4_n_q2 R)
def f4_n_live3:List Nat:=[54,53,54,54,49,49,48,47,49,49,4,0,6]
def f4_n_head3 (l:List TB.den) (gs:List T4.den) (gl:List TL.den) (s49:Int):St:={slots:=[AV.list 80 TB l,AV.undef,AV.undef,AV.undef,AV.ptr 0 0,AV.undef,AV.nilp]++List.replicate 40 AV.undef++[AV.list 46 T4 gs,AV.int .i64 (↑gs.length:Int),AV.int .i64 s49,AV.undef,AV.undef,AV.undef,((AV.int .i64 (gs.getD s49.toNat (0,0,0,0)).fst).cons ((AV.int .i64 (gs.getD s49.toNat (0,0,0,0)).snd.fst).cons ((AV.int .i64 (gs.getD s49.toNat (0,0,0,0)).snd.snd.fst).cons ((AV.int .i64 (gs.getD s49.toNat (0,0,0,0)).snd.snd.snd).cons AV.nl)))).agg,AV.int .i64 0]++List.replicate 32 AV.undef,obs:=[Ob.cells 26 [AV.list 46 T4 gs,AV.list 48 (KI.pair (T4.pair (KI.pair KI))) gl]]}
def f4_n_q3 (R:AV→List Ob→Prop) (J:St→Prop):Ex→St→Prop:=blockA 2 (blockA 1 (seqQ tab (eC1.cut f4_n_cuts) (subC [1,1,0,1,0,0,1,1,1] (bodyOf Tryz.f4)) [49,48,47,49,49,4,0,6] (thenA (fun s=>J (St.tidy f4_n_live2 s)) (blockA 0 (seqQ tab (eC1.cut f4_n_cuts) (subC [1,1,1] (bodyOf Tryz.f4)) [6] (endA tab Tryz.f4 R))))))
def f4_n_loop3 (R:AV→List Ob→Prop) (l:List TB.den) (gs:List T4.den) (gl:List TL.den) (s49:Int) (J:St→Prop):Prop:=loopT f4_n_live3 (codeA tab (eC1.cut f4_n_cuts) (subC [1,1,0,1,0,0,1,1,0,0,1,1,0,0] (bodyOf Tryz.f4)) f4_n_live3) (f4_n_head3 l gs gl s49) (f4_n_q3 R J)
theorem f4_n_eq3 (R:AV→List Ob→Prop) (l:List TB.den) (gs:List T4.den) (gl:List TL.den) (s49:Int) (J:St→Prop):loopU f4_n_live3 (codeA tab (eC1.cut f4_n_cuts) (subC [1,1,0,1,0,0,1,1,0,0,1,1,0,0] (bodyOf Tryz.f4)) f4_n_live3) 40 (f4_n_head3 l gs gl s49) (f4_n_q3 R J)=(bif !decide ((gs.getD s49.toNat (0,0,0,0)).fst>288230376151711744) then bif decide ((gs.getD s49.toNat (0,0,0,0)).fst < -288230376151711744) then R AV.nilp [] else bif !decide ((gs.getD s49.toNat (0,0,0,0)).snd.fst>288230376151711744) then bif decide ((gs.getD s49.toNat (0,0,0,0)).snd.fst < -288230376151711744) then R AV.nilp [] else bif !decide ((gs.getD s49.toNat (0,0,0,0)).snd.snd.fst>288230376151711744) then bif decide ((gs.getD s49.toNat (0,0,0,0)).snd.snd.fst < -288230376151711744) then R AV.nilp [] else bif !decide ((gs.getD s49.toNat (0,0,0,0)).snd.snd.snd>288230376151711744) then bif decide ((gs.getD s49.toNat (0,0,0,0)).snd.snd.snd < -288230376151711744) then R AV.nilp [] else J (f4_n_head2 l gs gl (IntKind.i64.wrap (s49+1))) else R AV.nilp [] else R AV.nilp [] else R AV.nilp [] else R AV.nilp []):=by kernel_rfl
set_option maxHeartbeats 2000000 in
theorem f4_n_rule3 (R:AV→List Ob→Prop) (l:List TB.den) (gs:List T4.den) (gl:List TL.den) (s49:Int) (J:St→Prop) (h:bif !decide ((gs.getD s49.toNat (0,0,0,0)).fst>288230376151711744) then bif decide ((gs.getD s49.toNat (0,0,0,0)).fst < -288230376151711744) then R AV.nilp [] else bif !decide ((gs.getD s49.toNat (0,0,0,0)).snd.fst>288230376151711744) then bif decide ((gs.getD s49.toNat (0,0,0,0)).snd.fst < -288230376151711744) then R AV.nilp [] else bif !decide ((gs.getD s49.toNat (0,0,0,0)).snd.snd.fst>288230376151711744) then bif decide ((gs.getD s49.toNat (0,0,0,0)).snd.snd.fst < -288230376151711744) then R AV.nilp [] else bif !decide ((gs.getD s49.toNat (0,0,0,0)).snd.snd.snd>288230376151711744) then bif decide ((gs.getD s49.toNat (0,0,0,0)).snd.snd.snd < -288230376151711744) then R AV.nilp [] else J (f4_n_head2 l gs gl (IntKind.i64.wrap (s49+1))) else R AV.nilp [] else R AV.nilp [] else R AV.nilp [] else R AV.nilp []):f4_n_loop3 R l gs gl s49 J:=loop_rounds 40 (Eq.mpr (f4_n_eq3 R l gs gl s49 J) h)
def f4_n_live4:List Nat:=[68,67,66,68,68,0,6]
def f4_n_head4 (l:List TB.den) (gl:List TL.den) (s68':Int):St:={slots:=[AV.list 80 TB l]++List.replicate 5 AV.undef++[AV.nilp]++List.replicate 59 AV.undef++[AV.list 48 (KI.pair (T4.pair (KI.pair KI))) gl,AV.int .i64 (↑gl.length:Int),AV.int .i64 s68']++List.replicate 18 AV.undef,obs:=[]}
def f4_n_q4 (R:AV→List Ob→Prop):Ex→St→Prop:=blockA 4 (seqQ tab (eC1.cut f4_n_cuts) (subC [1,1,1,1] (bodyOf Tryz.f4)) [6] (endA tab Tryz.f4 R))
def f4_n_loop4 (R:AV→List Ob→Prop) (l:List TB.den) (gl:List TL.den) (s68':Int):Prop:=loopT f4_n_live4 (codeA tab (eC1.cut f4_n_cuts) (subC [1,1,1,0,1,0,0] (bodyOf Tryz.f4)) f4_n_live4) (f4_n_head4 l gl s68') (f4_n_q4 R)
def f4_n_live5:List Nat:=[74,73,74,74,68,68,67,66,68,68,0,6]
def f4_n_head5 (l:List TB.den) (gl:List TL.den) (s68':Int):St:={slots:=[AV.list 80 TB l]++List.replicate 5 AV.undef++[AV.nilp]++List.replicate 59 AV.undef++[AV.list 48 (KI.pair (T4.pair (KI.pair KI))) gl,AV.int .i64 (↑gl.length:Int),AV.int .i64 s68']++List.replicate 4 AV.undef++[((AV.int .i64 (gl.getD s68'.toNat (0,(0,0,0,0),0,0)).snd.fst.fst).cons ((AV.int .i64 (gl.getD s68'.toNat (0,(0,0,0,0),0,0)).snd.fst.snd.fst).cons ((AV.int .i64 (gl.getD s68'.toNat (0,(0,0,0,0),0,0)).snd.fst.snd.snd.fst).cons ((AV.int .i64 (gl.getD s68'.toNat (0,(0,0,0,0),0,0)).snd.fst.snd.snd.snd).cons AV.nl)))).agg,AV.int .i64 0]++List.replicate 12 AV.undef,obs:=[]}
def f4_n_q5 (R:AV→List Ob→Prop) (J1:St→Prop):Ex→St→Prop:=blockA 6 (blockA 5 (seqQ tab (eC1.cut f4_n_cuts) (subC [1,1,1,0,1,0,0,1,1,1] (bodyOf Tryz.f4)) [68,67,66,68,68,0,6] (thenA (fun s=>J1 (St.tidy f4_n_live4 s)) (blockA 4 (seqQ tab (eC1.cut f4_n_cuts) (subC [1,1,1,1] (bodyOf Tryz.f4)) [6] (endA tab Tryz.f4 R))))))
def f4_n_loop5 (R:AV→List Ob→Prop) (l:List TB.den) (gl:List TL.den) (s68':Int) (J1:St→Prop):Prop:=loopT f4_n_live5 (codeA tab (eC1.cut f4_n_cuts) (subC [1,1,1,0,1,0,0,1,1,0,0,1,1,0,0] (bodyOf Tryz.f4)) f4_n_live5) (f4_n_head5 l gl s68') (f4_n_q5 R J1)
theorem f4_n_eq5 (R:AV→List Ob→Prop) (l:List TB.den) (gl:List TL.den) (s68':Int) (J1:St→Prop):loopU f4_n_live5 (codeA tab (eC1.cut f4_n_cuts) (subC [1,1,1,0,1,0,0,1,1,0,0,1,1,0,0] (bodyOf Tryz.f4)) f4_n_live5) 40 (f4_n_head5 l gl s68') (f4_n_q5 R J1)=(bif !decide ((gl.getD s68'.toNat (0,(0,0,0,0),0,0)).snd.fst.fst>288230376151711744) then bif decide ((gl.getD s68'.toNat (0,(0,0,0,0),0,0)).snd.fst.fst < -288230376151711744) then R AV.nilp [] else bif !decide ((gl.getD s68'.toNat (0,(0,0,0,0),0,0)).snd.fst.snd.fst>288230376151711744) then bif decide ((gl.getD s68'.toNat (0,(0,0,0,0),0,0)).snd.fst.snd.fst < -288230376151711744) then R AV.nilp [] else bif !decide ((gl.getD s68'.toNat (0,(0,0,0,0),0,0)).snd.fst.snd.snd.fst>288230376151711744) then bif decide ((gl.getD s68'.toNat (0,(0,0,0,0),0,0)).snd.fst.snd.snd.fst < -288230376151711744) then R AV.nilp [] else bif !decide ((gl.getD s68'.toNat (0,(0,0,0,0),0,0)).snd.fst.snd.snd.snd>288230376151711744) then bif decide ((gl.getD s68'.toNat (0,(0,0,0,0),0,0)).snd.fst.snd.snd.snd < -288230376151711744) then R AV.nilp [] else J1 (f4_n_head4 l gl (IntKind.i64.wrap (s68'+1))) else R AV.nilp [] else R AV.nilp [] else R AV.nilp [] else R AV.nilp []):=by kernel_rfl
set_option maxHeartbeats 2000000 in
theorem f4_n_rule5 (R:AV→List Ob→Prop) (l:List TB.den) (gl:List TL.den) (s68':Int) (J1:St→Prop) (h:bif !decide ((gl.getD s68'.toNat (0,(0,0,0,0),0,0)).snd.fst.fst>288230376151711744) then bif decide ((gl.getD s68'.toNat (0,(0,0,0,0),0,0)).snd.fst.fst < -288230376151711744) then R AV.nilp [] else bif !decide ((gl.getD s68'.toNat (0,(0,0,0,0),0,0)).snd.fst.snd.fst>288230376151711744) then bif decide ((gl.getD s68'.toNat (0,(0,0,0,0),0,0)).snd.fst.snd.fst < -288230376151711744) then R AV.nilp [] else bif !decide ((gl.getD s68'.toNat (0,(0,0,0,0),0,0)).snd.fst.snd.snd.fst>288230376151711744) then bif decide ((gl.getD s68'.toNat (0,(0,0,0,0),0,0)).snd.fst.snd.snd.fst < -288230376151711744) then R AV.nilp [] else bif !decide ((gl.getD s68'.toNat (0,(0,0,0,0),0,0)).snd.fst.snd.snd.snd>288230376151711744) then bif decide ((gl.getD s68'.toNat (0,(0,0,0,0),0,0)).snd.fst.snd.snd.snd < -288230376151711744) then R AV.nilp [] else J1 (f4_n_head4 l gl (IntKind.i64.wrap (s68'+1))) else R AV.nilp [] else R AV.nilp [] else R AV.nilp [] else R AV.nilp []):f4_n_loop5 R l gl s68' J1:=loop_rounds 40 (Eq.mpr (f4_n_eq5 R l gl s68' J1) h)
def f4_n_rhs4 (R:AV→List Ob→Prop) (l:List TB.den) (gl:List TL.den) (J1:St→Prop) (s68':Int):Prop:=bif decide (s68'<(↑gl.length:Int)) then 0≤s68'∧s68'<(↑gl.length:Int)∧f4_n_loop5 R l gl s68' J1 else l.length≤4096∧0<l.length∧(buildN l 0 ([],[])).isSome=true∧R (AV.lptr 88 (Ty.list 92 TN) [(buildN l 0 ([],[])).getD []] 0 0) []
theorem f4_n_eq4 (R:AV→List Ob→Prop) (l:List TB.den) (gl:List TL.den) (J1:St→Prop) (s68':Int):codeA tab (eC1.cut f4_n_cuts) (subC [1,1,1,0,1,0,0] (bodyOf Tryz.f4)) f4_n_live4 (f4_n_head4 l gl s68') (thenA (fun s=>J1 (St.tidy f4_n_live4 s)) (f4_n_q4 R))=f4_n_rhs4 R l gl J1 s68':=by kernel_rfl
set_option maxHeartbeats 2000000 in
theorem f4_n_rule4 (R:AV→List Ob→Prop) (l:List TB.den) (gl:List TL.den) (I:Nat→(Int)→Prop) (n:Nat) (s68':Int) (h0:I n s68') (h:∀n,∀(s68':Int),I n s68'→f4_n_rhs4 R l gl (fun t=>∃m,m<n∧∃(s68':Int),t=f4_n_head4 l gl s68'∧I m s68') s68'):f4_n_loop4 R l gl s68':=
 loop_intro (fun n t=>∃(s68':Int),t=f4_n_head4 l gl s68'∧I n s68') n ⟨s68',rfl,h0⟩ (fun n t ht=>by obtain⟨s68',rfl,hI⟩:=ht;exact Eq.mpr (f4_n_eq4 R l gl (fun t=>∃m,m<n∧∃(s68':Int),t=f4_n_head4 l gl s68'∧I m s68') s68') (h n s68' hI))
def f4_n_rhs2 (R:AV→List Ob→Prop) (l:List TB.den) (gs:List T4.den) (gl:List TL.den) (J:St→Prop) (s49:Int):Prop:=bif decide (s49<(↑gs.length:Int)) then 0≤s49∧s49<(↑gs.length:Int)∧f4_n_loop3 R l gs gl s49 J else f4_n_loop4 R l gl 0
theorem f4_n_eq2 (R:AV→List Ob→Prop) (l:List TB.den) (gs:List T4.den) (gl:List TL.den) (J:St→Prop) (s49:Int):codeA tab (eC1.cut f4_n_cuts) (subC [1,1,0,1,0,0] (bodyOf Tryz.f4)) f4_n_live2 (f4_n_head2 l gs gl s49) (thenA (fun s=>J (St.tidy f4_n_live2 s)) (f4_n_q2 R))=f4_n_rhs2 R l gs gl J s49:=by kernel_rfl
set_option maxHeartbeats 2000000 in
theorem f4_n_rule2 (R:AV→List Ob→Prop) (l:List TB.den) (gs:List T4.den) (gl:List TL.den) (I:Nat→(Int)→Prop) (n:Nat) (s49:Int) (h0:I n s49) (h:∀n,∀(s49:Int),I n s49→f4_n_rhs2 R l gs gl (fun t=>∃m,m<n∧∃(s49:Int),t=f4_n_head2 l gs gl s49∧I m s49) s49):f4_n_loop2 R l gs gl s49:=
 loop_intro (fun n t=>∃(s49:Int),t=f4_n_head2 l gs gl s49∧I n s49) n ⟨s49,rfl,h0⟩ (fun n t ht=>by obtain⟨s49,rfl,hI⟩:=ht;exact Eq.mpr (f4_n_eq2 R l gs gl (fun t=>∃m,m<n∧∃(s49:Int),t=f4_n_head2 l gs gl s49∧I m s49) s49) (h n s49 hI))
theorem f4_n_jeq1 (R:AV→List Ob→Prop) (l:List TB.den) (gs:List T4.den) (gl:List TL.den) (most:Int):f4_n_j1 R l gs gl most=(bif decide ((↑gl.length:Int)>IntKind.i64.wrap (2*most)) then R AV.nilp [] else f4_n_loop2 R l gs gl 0):=(meet_eq _ _).trans (by kernel_rfl)
def f4_n_j6 (R:AV→List Ob→Prop) (l:List TB.den) (gs:List T4.den) (gl:List TL.den):Prop:=Meet (fun s=>codeA tab (eC1.cut f4_n_cuts) (subC [1,0,1,1] (bodyOf Tryz.f4)) [4,4,0,6] s (seqQ tab (eC1.cut f4_n_cuts) (subC [1,1] (bodyOf Tryz.f4)) [6] (endA tab Tryz.f4 R))) {slots:=[AV.list 80 TB l,AV.undef,AV.undef,AV.undef,AV.ptr 0 0,AV.undef,AV.nilp]++List.replicate 38 AV.undef++[AV.bool true]++List.replicate 41 AV.undef,obs:=[Ob.cells 26 [AV.list 46 T4 gs,AV.list 48 (KI.pair (T4.pair (KI.pair KI))) gl]]}
theorem f4_n_jeq6 (R:AV→List Ob→Prop) (l:List TB.den) (gs:List T4.den) (gl:List TL.den):f4_n_j6 R l gs gl=(R AV.nilp []):=(meet_eq _ _).trans (by kernel_rfl)
theorem f4_n_run (R:AV→List Ob→Prop) (l:List TB.den) (gs:List T4.den) (gl:List TL.den) (most:Int):fnA tab (eC1.cut f4_n_cuts) Tryz.f4 (bodyOf Tryz.f4) [.list 80 TB l,.agg (.cons (.list 46 T4 gs) (.cons (.list 48 TL gl) .nl)),.int .i64 most] R=(bif !(blk (chk6 l)).snd != 0 then bif !decide ((↑l.length:Int)>most) then bif !decide ((↑gs.length:Int)>IntKind.i64.wrap (2*most)) then f4_n_j1 R l gs gl most else f4_n_j6 R l gs gl else f4_n_j6 R l gs gl else f4_n_j6 R l gs gl):=by kernel_rfl
theorem ok4_n:ConOk Tryz.prog (4,con4_n):=by
 intro args t h hp
 change con4_n args=some t at h
 unfold con4_n at h
 split at h
 · rename_i l gs gl most
   change List TB.den at l
   change List T4.den at gs
   change List TL.den at gl
   cases h
   refine fn_ok (envC1.cut f4_n_cuts) tab_ok mixed Tryz.func4 (by kernel_rfl) (by kernel_rfl) ?_
   rw[f4_n_run]
   try dsimp only
   have hb:=hp (begBad l gs gl most=true) (by simp)
   have hm0:=hp (0≤most) (by simp)
   have hm1:=hp (most≤1000) (by simp)
   clear hp
   unfold begBad at hb
   rw[blk_eq]
   refine cond_split (fun h1=>cond_split (fun h2=>cond_split (fun h3 => ?_) (fun h3 => ?_)) (fun h2 => ?_)) (fun h1 => ?_)
   rotate_left
   · rw[f4_n_jeq6]
     exact⟨rfl,rfl⟩
   · rw[f4_n_jeq6]
     exact⟨rfl,rfl⟩
   · rw[f4_n_jeq6]
     exact⟨rfl,rfl⟩
   have hw2:IntKind.wrap .i64 (2*most)=2*most:=wrap_id _ (by omega)
   rw[Bool.not_eq_true'] at h1 h2 h3
   rw[hw2] at h3
   rw[h1,h2,h3,Bool.false_or,Bool.false_or,Bool.false_or] at hb
   rw[f4_n_jeq1,hw2]
   refine dec_split (fun h4 => ?_) (fun h4 => ?_)
   · exact⟨rfl,rfl⟩
   rw[decide_eq_false h4,Bool.false_or] at hb
   have e1:(chk6 l).2=0:=bne_zero h1
   have e2:=of_decide_eq_false h2
   have e3:=of_decide_eq_false h3
   refine f4_n_rule2 _ l gs gl (fun n s=>∃k:Nat,k≤gs.length∧n=gs.length-k∧s=k∧(gs.take k).any badR=false) gs.length 0 ⟨0,Nat.zero_le _,rfl,rfl,rfl⟩ ?_
   rintro n s ⟨k,hk,rfl,rfl,ha⟩
   unfold f4_n_rhs2
   refine dec_split (fun hlt=>⟨by omega,hlt,?_⟩) (fun hlt => ?_)
   · have hlt':k<gs.length:=by omega
     refine f4_n_rule3 _ l gs gl _ _ ?_
     rw[Int.toNat_natCast]
     refine badR_split (gs.getD k (0,0,0,0)) (fun hq => ?_) (fun hq => ?_)
     · exact⟨rfl,rfl⟩
     · exact⟨gs.length-(k+1),by omega,_,rfl,k+1,by omega,rfl,by rw[wrap_id _ (by omega)];rfl,any_next hlt' ha hq⟩
   · have hga:gs.any badR=false:=by rw[List.take_of_length_le (by omega)] at ha;exact ha
     rw[hga,Bool.false_or] at hb
     refine f4_n_rule4 _ l gl (fun n s=>∃j:Nat,j≤gl.length∧n=gl.length-j∧s=j∧(gl.take j).any (fun x=>badR x.2.1)=false) gl.length 0 ⟨0,Nat.zero_le _,rfl,rfl,rfl⟩ ?_
     rintro n s ⟨j,hj,rfl,rfl,hja⟩
     unfold f4_n_rhs4
     refine dec_split (fun hlt=>⟨by omega,hlt,?_⟩) (fun hlt => ?_)
     · have hlt':j<gl.length:=by omega
       refine f4_n_rule5 _ l gl _ _ ?_
       rw[Int.toNat_natCast]
       refine badR_split (gl.getD j (0,(0,0,0,0),0,0)).2.1 (fun hq => ?_) (fun hq => ?_)
       · exact⟨rfl,rfl⟩
       · exact⟨gl.length-(j+1),by omega,_,rfl,j+1,by omega,rfl,by rw[wrap_id _ (by omega)];rfl,any_next (p:=fun x:Ln=>badR x.2.1) hlt' hja hq⟩
     · have hgl:(gl.any fun x=>badR x.2.1)=false:=by rw[List.take_of_length_le (by omega)] at hja;exact hja
       rw[hgl] at hb;cases hb
 · cases h
def con4_t:List AV→Option Tells
 | [.list 80 (.pair (.int .i64) (.pair (.int .i64) (.pair (.int .i64) (.pair (.int .i64) (.pair (.int .i64) (.pair (.int .i64) (.pair (.pair (.int .i64) (.pair (.int .i64) (.pair (.int .i64) (.int .i64)))) (.pair (.int .i64) (.pair (.int .i64) (.pair (.int .i64) (.int .i64))))))))))) l,.agg (.cons (.list 46 (.pair (.int .i64) (.pair (.int .i64) (.pair (.int .i64) (.int .i64)))) gs) (.cons (.list 48 (.pair (.int .i64) (.pair (.pair (.int .i64) (.pair (.int .i64) (.pair (.int .i64) (.int .i64)))) (.pair (.int .i64) (.int .i64)))) gl) .nl)),.int .i64 most]=>some ⟨[begBad l gs gl most=false,0≤most,most≤1000],.lptr 88 (.list 92 TN) [((buildN l 0 ([],[])).getD [])] 0 0,[]⟩
 | _=>none
def f4_t_cuts:List Nat:=[4]
def f4_t_j1 (R:AV→List Ob→Prop) (l:List TB.den) (gs:List T4.den) (gl:List TL.den) (most:Int):Prop:=Meet (fun s=>codeA tab (eC1.cut f4_t_cuts) (subC [1,0,1,1] (bodyOf Tryz.f4)) [4,4,0,6] s (seqQ tab (eC1.cut f4_t_cuts) (subC [1,1] (bodyOf Tryz.f4)) [6] (endA tab Tryz.f4 R))) {slots:=[AV.list 80 TB l,AV.undef,AV.undef,AV.undef,AV.ptr 0 0,AV.undef,AV.nilp]++List.replicate 38 AV.undef++[AV.bool (decide ((↑gl.length:Int)>IntKind.i64.wrap (2*most)))]++List.replicate 41 AV.undef,obs:=[Ob.cells 26 [AV.list 46 T4 gs,AV.list 48 (KI.pair (T4.pair (KI.pair KI))) gl]]}
def f4_t_live2:List Nat:=[49,48,47,49,49,4,0,6]
def f4_t_head2 (l:List TB.den) (gs:List T4.den) (gl:List TL.den) (s49:Int):St:={slots:=[AV.list 80 TB l,AV.undef,AV.undef,AV.undef,AV.ptr 0 0,AV.undef,AV.nilp]++List.replicate 40 AV.undef++[AV.list 46 T4 gs,AV.int .i64 (↑gs.length:Int),AV.int .i64 s49]++List.replicate 37 AV.undef,obs:=[Ob.cells 26 [AV.list 46 T4 gs,AV.list 48 (KI.pair (T4.pair (KI.pair KI))) gl]]}
def f4_t_q2 (R:AV→List Ob→Prop):Ex→St→Prop:=blockA 0 (seqQ tab (eC1.cut f4_t_cuts) (subC [1,1,1] (bodyOf Tryz.f4)) [6] (endA tab Tryz.f4 R))
def f4_t_loop2 (R:AV→List Ob→Prop) (l:List TB.den) (gs:List T4.den) (gl:List TL.den) (s49:Int):Prop:=loopT f4_t_live2 (codeA tab (eC1.cut f4_t_cuts) (subC [1,1,0,1,0,0] (bodyOf Tryz.f4)) f4_t_live2) (f4_t_head2 l gs gl s49) (f4_t_q2 R)
def f4_t_live3:List Nat:=[54,53,54,54,49,49,48,47,49,49,4,0,6]
def f4_t_head3 (l:List TB.den) (gs:List T4.den) (gl:List TL.den) (s49:Int):St:={slots:=[AV.list 80 TB l,AV.undef,AV.undef,AV.undef,AV.ptr 0 0,AV.undef,AV.nilp]++List.replicate 40 AV.undef++[AV.list 46 T4 gs,AV.int .i64 (↑gs.length:Int),AV.int .i64 s49,AV.undef,AV.undef,AV.undef,((AV.int .i64 (gs.getD s49.toNat (0,0,0,0)).fst).cons ((AV.int .i64 (gs.getD s49.toNat (0,0,0,0)).snd.fst).cons ((AV.int .i64 (gs.getD s49.toNat (0,0,0,0)).snd.snd.fst).cons ((AV.int .i64 (gs.getD s49.toNat (0,0,0,0)).snd.snd.snd).cons AV.nl)))).agg,AV.int .i64 0]++List.replicate 32 AV.undef,obs:=[Ob.cells 26 [AV.list 46 T4 gs,AV.list 48 (KI.pair (T4.pair (KI.pair KI))) gl]]}
def f4_t_q3 (R:AV→List Ob→Prop) (J:St→Prop):Ex→St→Prop:=blockA 2 (blockA 1 (seqQ tab (eC1.cut f4_t_cuts) (subC [1,1,0,1,0,0,1,1,1] (bodyOf Tryz.f4)) [49,48,47,49,49,4,0,6] (thenA (fun s=>J (St.tidy f4_t_live2 s)) (blockA 0 (seqQ tab (eC1.cut f4_t_cuts) (subC [1,1,1] (bodyOf Tryz.f4)) [6] (endA tab Tryz.f4 R))))))
def f4_t_loop3 (R:AV→List Ob→Prop) (l:List TB.den) (gs:List T4.den) (gl:List TL.den) (s49:Int) (J:St→Prop):Prop:=loopT f4_t_live3 (codeA tab (eC1.cut f4_t_cuts) (subC [1,1,0,1,0,0,1,1,0,0,1,1,0,0] (bodyOf Tryz.f4)) f4_t_live3) (f4_t_head3 l gs gl s49) (f4_t_q3 R J)
theorem f4_t_eq3 (R:AV→List Ob→Prop) (l:List TB.den) (gs:List T4.den) (gl:List TL.den) (s49:Int) (J:St→Prop):loopU f4_t_live3 (codeA tab (eC1.cut f4_t_cuts) (subC [1,1,0,1,0,0,1,1,0,0,1,1,0,0] (bodyOf Tryz.f4)) f4_t_live3) 40 (f4_t_head3 l gs gl s49) (f4_t_q3 R J)=(bif !decide ((gs.getD s49.toNat (0,0,0,0)).fst>288230376151711744) then bif decide ((gs.getD s49.toNat (0,0,0,0)).fst < -288230376151711744) then R AV.nilp [] else bif !decide ((gs.getD s49.toNat (0,0,0,0)).snd.fst>288230376151711744) then bif decide ((gs.getD s49.toNat (0,0,0,0)).snd.fst < -288230376151711744) then R AV.nilp [] else bif !decide ((gs.getD s49.toNat (0,0,0,0)).snd.snd.fst>288230376151711744) then bif decide ((gs.getD s49.toNat (0,0,0,0)).snd.snd.fst < -288230376151711744) then R AV.nilp [] else bif !decide ((gs.getD s49.toNat (0,0,0,0)).snd.snd.snd>288230376151711744) then bif decide ((gs.getD s49.toNat (0,0,0,0)).snd.snd.snd < -288230376151711744) then R AV.nilp [] else J (f4_t_head2 l gs gl (IntKind.i64.wrap (s49+1))) else R AV.nilp [] else R AV.nilp [] else R AV.nilp [] else R AV.nilp []):=by kernel_rfl
set_option maxHeartbeats 2000000 in
theorem f4_t_rule3 (R:AV→List Ob→Prop) (l:List TB.den) (gs:List T4.den) (gl:List TL.den) (s49:Int) (J:St→Prop) (h:bif !decide ((gs.getD s49.toNat (0,0,0,0)).fst>288230376151711744) then bif decide ((gs.getD s49.toNat (0,0,0,0)).fst < -288230376151711744) then R AV.nilp [] else bif !decide ((gs.getD s49.toNat (0,0,0,0)).snd.fst>288230376151711744) then bif decide ((gs.getD s49.toNat (0,0,0,0)).snd.fst < -288230376151711744) then R AV.nilp [] else bif !decide ((gs.getD s49.toNat (0,0,0,0)).snd.snd.fst>288230376151711744) then bif decide ((gs.getD s49.toNat (0,0,0,0)).snd.snd.fst < -288230376151711744) then R AV.nilp [] else bif !decide ((gs.getD s49.toNat (0,0,0,0)).snd.snd.snd>288230376151711744) then bif decide ((gs.getD s49.toNat (0,0,0,0)).snd.snd.snd < -288230376151711744) then R AV.nilp [] else J (f4_t_head2 l gs gl (IntKind.i64.wrap (s49+1))) else R AV.nilp [] else R AV.nilp [] else R AV.nilp [] else R AV.nilp []):f4_t_loop3 R l gs gl s49 J:=loop_rounds 40 (Eq.mpr (f4_t_eq3 R l gs gl s49 J) h)
def f4_t_live4:List Nat:=[68,67,66,68,68,0,6]
def f4_t_head4 (l:List TB.den) (gl:List TL.den) (s68':Int):St:={slots:=[AV.list 80 TB l]++List.replicate 5 AV.undef++[AV.nilp]++List.replicate 59 AV.undef++[AV.list 48 (KI.pair (T4.pair (KI.pair KI))) gl,AV.int .i64 (↑gl.length:Int),AV.int .i64 s68']++List.replicate 18 AV.undef,obs:=[]}
def f4_t_q4 (R:AV→List Ob→Prop):Ex→St→Prop:=blockA 4 (seqQ tab (eC1.cut f4_t_cuts) (subC [1,1,1,1] (bodyOf Tryz.f4)) [6] (endA tab Tryz.f4 R))
def f4_t_loop4 (R:AV→List Ob→Prop) (l:List TB.den) (gl:List TL.den) (s68':Int):Prop:=loopT f4_t_live4 (codeA tab (eC1.cut f4_t_cuts) (subC [1,1,1,0,1,0,0] (bodyOf Tryz.f4)) f4_t_live4) (f4_t_head4 l gl s68') (f4_t_q4 R)
def f4_t_live5:List Nat:=[74,73,74,74,68,68,67,66,68,68,0,6]
def f4_t_head5 (l:List TB.den) (gl:List TL.den) (s68':Int):St:={slots:=[AV.list 80 TB l]++List.replicate 5 AV.undef++[AV.nilp]++List.replicate 59 AV.undef++[AV.list 48 (KI.pair (T4.pair (KI.pair KI))) gl,AV.int .i64 (↑gl.length:Int),AV.int .i64 s68']++List.replicate 4 AV.undef++[((AV.int .i64 (gl.getD s68'.toNat (0,(0,0,0,0),0,0)).snd.fst.fst).cons ((AV.int .i64 (gl.getD s68'.toNat (0,(0,0,0,0),0,0)).snd.fst.snd.fst).cons ((AV.int .i64 (gl.getD s68'.toNat (0,(0,0,0,0),0,0)).snd.fst.snd.snd.fst).cons ((AV.int .i64 (gl.getD s68'.toNat (0,(0,0,0,0),0,0)).snd.fst.snd.snd.snd).cons AV.nl)))).agg,AV.int .i64 0]++List.replicate 12 AV.undef,obs:=[]}
def f4_t_q5 (R:AV→List Ob→Prop) (J1:St→Prop):Ex→St→Prop:=blockA 6 (blockA 5 (seqQ tab (eC1.cut f4_t_cuts) (subC [1,1,1,0,1,0,0,1,1,1] (bodyOf Tryz.f4)) [68,67,66,68,68,0,6] (thenA (fun s=>J1 (St.tidy f4_t_live4 s)) (blockA 4 (seqQ tab (eC1.cut f4_t_cuts) (subC [1,1,1,1] (bodyOf Tryz.f4)) [6] (endA tab Tryz.f4 R))))))
def f4_t_loop5 (R:AV→List Ob→Prop) (l:List TB.den) (gl:List TL.den) (s68':Int) (J1:St→Prop):Prop:=loopT f4_t_live5 (codeA tab (eC1.cut f4_t_cuts) (subC [1,1,1,0,1,0,0,1,1,0,0,1,1,0,0] (bodyOf Tryz.f4)) f4_t_live5) (f4_t_head5 l gl s68') (f4_t_q5 R J1)
theorem f4_t_eq5 (R:AV→List Ob→Prop) (l:List TB.den) (gl:List TL.den) (s68':Int) (J1:St→Prop):loopU f4_t_live5 (codeA tab (eC1.cut f4_t_cuts) (subC [1,1,1,0,1,0,0,1,1,0,0,1,1,0,0] (bodyOf Tryz.f4)) f4_t_live5) 40 (f4_t_head5 l gl s68') (f4_t_q5 R J1)=(bif !decide ((gl.getD s68'.toNat (0,(0,0,0,0),0,0)).snd.fst.fst>288230376151711744) then bif decide ((gl.getD s68'.toNat (0,(0,0,0,0),0,0)).snd.fst.fst < -288230376151711744) then R AV.nilp [] else bif !decide ((gl.getD s68'.toNat (0,(0,0,0,0),0,0)).snd.fst.snd.fst>288230376151711744) then bif decide ((gl.getD s68'.toNat (0,(0,0,0,0),0,0)).snd.fst.snd.fst < -288230376151711744) then R AV.nilp [] else bif !decide ((gl.getD s68'.toNat (0,(0,0,0,0),0,0)).snd.fst.snd.snd.fst>288230376151711744) then bif decide ((gl.getD s68'.toNat (0,(0,0,0,0),0,0)).snd.fst.snd.snd.fst < -288230376151711744) then R AV.nilp [] else bif !decide ((gl.getD s68'.toNat (0,(0,0,0,0),0,0)).snd.fst.snd.snd.snd>288230376151711744) then bif decide ((gl.getD s68'.toNat (0,(0,0,0,0),0,0)).snd.fst.snd.snd.snd < -288230376151711744) then R AV.nilp [] else J1 (f4_t_head4 l gl (IntKind.i64.wrap (s68'+1))) else R AV.nilp [] else R AV.nilp [] else R AV.nilp [] else R AV.nilp []):=by kernel_rfl
set_option maxHeartbeats 2000000 in
theorem f4_t_rule5 (R:AV→List Ob→Prop) (l:List TB.den) (gl:List TL.den) (s68':Int) (J1:St→Prop) (h:bif !decide ((gl.getD s68'.toNat (0,(0,0,0,0),0,0)).snd.fst.fst>288230376151711744) then bif decide ((gl.getD s68'.toNat (0,(0,0,0,0),0,0)).snd.fst.fst < -288230376151711744) then R AV.nilp [] else bif !decide ((gl.getD s68'.toNat (0,(0,0,0,0),0,0)).snd.fst.snd.fst>288230376151711744) then bif decide ((gl.getD s68'.toNat (0,(0,0,0,0),0,0)).snd.fst.snd.fst < -288230376151711744) then R AV.nilp [] else bif !decide ((gl.getD s68'.toNat (0,(0,0,0,0),0,0)).snd.fst.snd.snd.fst>288230376151711744) then bif decide ((gl.getD s68'.toNat (0,(0,0,0,0),0,0)).snd.fst.snd.snd.fst < -288230376151711744) then R AV.nilp [] else bif !decide ((gl.getD s68'.toNat (0,(0,0,0,0),0,0)).snd.fst.snd.snd.snd>288230376151711744) then bif decide ((gl.getD s68'.toNat (0,(0,0,0,0),0,0)).snd.fst.snd.snd.snd < -288230376151711744) then R AV.nilp [] else J1 (f4_t_head4 l gl (IntKind.i64.wrap (s68'+1))) else R AV.nilp [] else R AV.nilp [] else R AV.nilp [] else R AV.nilp []):f4_t_loop5 R l gl s68' J1:=loop_rounds 40 (Eq.mpr (f4_t_eq5 R l gl s68' J1) h)
def f4_t_rhs4 (R:AV→List Ob→Prop) (l:List TB.den) (gl:List TL.den) (J1:St→Prop) (s68':Int):Prop:=bif decide (s68'<(↑gl.length:Int)) then 0≤s68'∧s68'<(↑gl.length:Int)∧f4_t_loop5 R l gl s68' J1 else l.length≤4096∧0<l.length∧(buildN l 0 ([],[])).isSome=true∧R (AV.lptr 88 (Ty.list 92 TN) [(buildN l 0 ([],[])).getD []] 0 0) []
theorem f4_t_eq4 (R:AV→List Ob→Prop) (l:List TB.den) (gl:List TL.den) (J1:St→Prop) (s68':Int):codeA tab (eC1.cut f4_t_cuts) (subC [1,1,1,0,1,0,0] (bodyOf Tryz.f4)) f4_t_live4 (f4_t_head4 l gl s68') (thenA (fun s=>J1 (St.tidy f4_t_live4 s)) (f4_t_q4 R))=f4_t_rhs4 R l gl J1 s68':=by kernel_rfl
set_option maxHeartbeats 2000000 in
theorem f4_t_rule4 (R:AV→List Ob→Prop) (l:List TB.den) (gl:List TL.den) (I:Nat→(Int)→Prop) (n:Nat) (s68':Int) (h0:I n s68') (h:∀n,∀(s68':Int),I n s68'→f4_t_rhs4 R l gl (fun t=>∃m,m<n∧∃(s68':Int),t=f4_t_head4 l gl s68'∧I m s68') s68'):f4_t_loop4 R l gl s68':=
 loop_intro (fun n t=>∃(s68':Int),t=f4_t_head4 l gl s68'∧I n s68') n ⟨s68',rfl,h0⟩ (fun n t ht=>by obtain⟨s68',rfl,hI⟩:=ht;exact Eq.mpr (f4_t_eq4 R l gl (fun t=>∃m,m<n∧∃(s68':Int),t=f4_t_head4 l gl s68'∧I m s68') s68') (h n s68' hI))
def f4_t_rhs2 (R:AV→List Ob→Prop) (l:List TB.den) (gs:List T4.den) (gl:List TL.den) (J:St→Prop) (s49:Int):Prop:=bif decide (s49<(↑gs.length:Int)) then 0≤s49∧s49<(↑gs.length:Int)∧f4_t_loop3 R l gs gl s49 J else f4_t_loop4 R l gl 0
theorem f4_t_eq2 (R:AV→List Ob→Prop) (l:List TB.den) (gs:List T4.den) (gl:List TL.den) (J:St→Prop) (s49:Int):codeA tab (eC1.cut f4_t_cuts) (subC [1,1,0,1,0,0] (bodyOf Tryz.f4)) f4_t_live2 (f4_t_head2 l gs gl s49) (thenA (fun s=>J (St.tidy f4_t_live2 s)) (f4_t_q2 R))=f4_t_rhs2 R l gs gl J s49:=by kernel_rfl
set_option maxHeartbeats 2000000 in
theorem f4_t_rule2 (R:AV→List Ob→Prop) (l:List TB.den) (gs:List T4.den) (gl:List TL.den) (I:Nat→(Int)→Prop) (n:Nat) (s49:Int) (h0:I n s49) (h:∀n,∀(s49:Int),I n s49→f4_t_rhs2 R l gs gl (fun t=>∃m,m<n∧∃(s49:Int),t=f4_t_head2 l gs gl s49∧I m s49) s49):f4_t_loop2 R l gs gl s49:=
 loop_intro (fun n t=>∃(s49:Int),t=f4_t_head2 l gs gl s49∧I n s49) n ⟨s49,rfl,h0⟩ (fun n t ht=>by obtain⟨s49,rfl,hI⟩:=ht;exact Eq.mpr (f4_t_eq2 R l gs gl (fun t=>∃m,m<n∧∃(s49:Int),t=f4_t_head2 l gs gl s49∧I m s49) s49) (h n s49 hI))
theorem f4_t_jeq1 (R:AV→List Ob→Prop) (l:List TB.den) (gs:List T4.den) (gl:List TL.den) (most:Int):f4_t_j1 R l gs gl most=(bif decide ((↑gl.length:Int)>IntKind.i64.wrap (2*most)) then R AV.nilp [] else f4_t_loop2 R l gs gl 0):=(meet_eq _ _).trans (by kernel_rfl)
def f4_t_j6 (R:AV→List Ob→Prop) (l:List TB.den) (gs:List T4.den) (gl:List TL.den):Prop:=Meet (fun s=>codeA tab (eC1.cut f4_t_cuts) (subC [1,0,1,1] (bodyOf Tryz.f4)) [4,4,0,6] s (seqQ tab (eC1.cut f4_t_cuts) (subC [1,1] (bodyOf Tryz.f4)) [6] (endA tab Tryz.f4 R))) {slots:=[AV.list 80 TB l,AV.undef,AV.undef,AV.undef,AV.ptr 0 0,AV.undef,AV.nilp]++List.replicate 38 AV.undef++[AV.bool true]++List.replicate 41 AV.undef,obs:=[Ob.cells 26 [AV.list 46 T4 gs,AV.list 48 (KI.pair (T4.pair (KI.pair KI))) gl]]}
theorem f4_t_jeq6 (R:AV→List Ob→Prop) (l:List TB.den) (gs:List T4.den) (gl:List TL.den):f4_t_j6 R l gs gl=(R AV.nilp []):=(meet_eq _ _).trans (by kernel_rfl)
theorem f4_t_run (R:AV→List Ob→Prop) (l:List TB.den) (gs:List T4.den) (gl:List TL.den) (most:Int):fnA tab (eC1.cut f4_t_cuts) Tryz.f4 (bodyOf Tryz.f4) [.list 80 TB l,.agg (.cons (.list 46 T4 gs) (.cons (.list 48 TL gl) .nl)),.int .i64 most] R=(bif !(blk (chk6 l)).snd != 0 then bif !decide ((↑l.length:Int)>most) then bif !decide ((↑gs.length:Int)>IntKind.i64.wrap (2*most)) then f4_t_j1 R l gs gl most else f4_t_j6 R l gs gl else f4_t_j6 R l gs gl else f4_t_j6 R l gs gl):=by kernel_rfl
theorem ok4_t:ConOk Tryz.prog (4,con4_t):=by
 intro args t h hp
 change con4_t args=some t at h
 unfold con4_t at h
 split at h
 · rename_i l gs gl most
   change List TB.den at l
   change List T4.den at gs
   change List TL.den at gl
   cases h
   refine fn_ok (envC1.cut f4_t_cuts) tab_ok mixed Tryz.func4 (by kernel_rfl) (by kernel_rfl) ?_
   rw[f4_t_run]
   try dsimp only
   have hb:=hp (begBad l gs gl most=false) (by simp)
   have hm0:=hp (0≤most) (by simp)
   have hm1:=hp (most≤1000) (by simp)
   clear hp
   unfold begBad at hb
   have hw2:IntKind.wrap .i64 (2*most)=2*most:=wrap_id _ (by omega)
   rw[blk_eq,hw2]
   refine cond_split (fun h1=>cond_split (fun h2=>cond_split (fun h3 => ?_) (fun h3 => ?_)) (fun h2 => ?_)) (fun h1 => ?_)
   rotate_left
   · rw[f4_t_jeq6]
     (exfalso;simp_all<;>omega)
   · rw[f4_t_jeq6]
     (exfalso;simp_all<;>omega)
   · rw[f4_t_jeq6]
     (exfalso;simp_all<;>omega)
   rw[Bool.not_eq_true'] at h1 h2 h3
   rw[h1,h2,h3,Bool.false_or,Bool.false_or,Bool.false_or] at hb
   rw[f4_t_jeq1,hw2]
   refine dec_split (fun h4 => ?_) (fun h4 => ?_)
   · (exfalso;rw[decide_eq_true h4] at hb;simp at hb)
   rw[decide_eq_false h4,Bool.false_or] at hb
   have e1:(chk6 l).2=0:=bne_zero h1
   have e2:=of_decide_eq_false h2
   have e3:=of_decide_eq_false h3
   refine f4_t_rule2 _ l gs gl (fun n s=>∃k:Nat,k≤gs.length∧n=gs.length-k∧s=k∧(gs.take k).any badR=false) gs.length 0 ⟨0,Nat.zero_le _,rfl,rfl,rfl⟩ ?_
   rintro n s ⟨k,hk,rfl,rfl,ha⟩
   unfold f4_t_rhs2
   refine dec_split (fun hlt=>⟨by omega,hlt,?_⟩) (fun hlt => ?_)
   · have hlt':k<gs.length:=by omega
     refine f4_t_rule3 _ l gs gl _ _ ?_
     rw[Int.toNat_natCast]
     refine badR_split (gs.getD k (0,0,0,0)) (fun hq => ?_) (fun hq => ?_)
     · (exfalso;rw[any_here hlt' hq] at hb;simp at hb)
     · exact⟨gs.length-(k+1),by omega,_,rfl,k+1,by omega,rfl,by rw[wrap_id _ (by omega)];rfl,any_next hlt' ha hq⟩
   · have hga:gs.any badR=false:=by rw[List.take_of_length_le (by omega)] at ha;exact ha
     rw[hga,Bool.false_or] at hb
     refine f4_t_rule4 _ l gl (fun n s=>∃j:Nat,j≤gl.length∧n=gl.length-j∧s=j∧(gl.take j).any (fun x=>badR x.2.1)=false) gl.length 0 ⟨0,Nat.zero_le _,rfl,rfl,rfl⟩ ?_
     rintro n s ⟨j,hj,rfl,rfl,hja⟩
     unfold f4_t_rhs4
     refine dec_split (fun hlt=>⟨by omega,hlt,?_⟩) (fun hlt => ?_)
     · have hlt':j<gl.length:=by omega
       refine f4_t_rule5 _ l gl _ _ ?_
       rw[Int.toNat_natCast]
       refine badR_split (gl.getD j (0,(0,0,0,0),0,0)).2.1 (fun hq => ?_) (fun hq => ?_)
       · (exfalso;rw[any_here (p:=fun x:Ln=>badR x.2.1) hlt' hq] at hb;simp at hb)
       · exact⟨gl.length-(j+1),by omega,_,rfl,j+1,by omega,rfl,by rw[wrap_id _ (by omega)];rfl,any_next (p:=fun x:Ln=>badR x.2.1) hlt' hja hq⟩
     · have hgl:(gl.any fun x=>badR x.2.1)=false:=by rw[List.take_of_length_le (by omega)] at hja;exact hja
       exact⟨by omega,(build_some e1).1,(build_some e1).2,rfl,rfl⟩
 · cases h
end
end Go.Proofs.YtkpjcmiijlpcaaaGreat.W
