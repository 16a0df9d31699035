/- How faults are compared. -/
import Derived.Test.YtkpjcmiijlpcaaaGreatEa
import Derived.Test.YtkpjcmiijlpcaaaGreatAwAF
import Derived.Test.YtkpjcmiijlpcaaaGreatAwAH
import Derived.Test.YtkpjcmiijlpcaaaGreatFd
import Derived.Test.YtkpjcmiijlpcaaaGreatFe
import Derived.Test.YtkpjcmiijlpcaaaGreatFh
import Derived.Test.YtkpjcmiijlpcaaaGreatFi
import Derived.KernelRfl
import Derived.Shelf.SlSortCmp.NoneTotal
import Derived.Test.YtkpjcmiijlpcaaaGreatProg
import Derived.Sort.OwnSorted
set_option linter.unusedVariables false
set_option linter.unusedSimpArgs false
namespace Go.Proofs.YtkpjcmiijlpcaaaGreat.W
open Go Go.Proofs Go.Proofs.YtkpjcmiijlpcaaaGreat.Aw
noncomputable section
def consZz0:Cons:=[]
def twosZz0:Cons2:=[]
def pansZz0:Cons3:=[]
def itersZz0:Cons4:=[]
abbrev eZz0:Env:=envOf4 consZz0 twosZz0 pansZz0 itersZz0
theorem allconsZz0:∀c∈consZz0,ConOk Tryz.prog c:=all_nil
theorem alltwosZz0:∀c∈twosZz0,ConOk2 Tryz.prog c:=all_nil
theorem allpansZz0:∀c∈pansZz0,ConOk3 Tryz.prog c:=all_nil
theorem allitersZz0:∀c∈itersZz0,ConOk4 Tryz.prog c:=all_nil
theorem envZz0:EnvOk Tryz.prog eZz0:=envOf4_ok _ _ _ _ allconsZz0 alltwosZz0 allpansZz0 allitersZz0
def con47:List AV→Option Tells
 | [.int .i64 a]=>some ⟨[],AV.bool (a != a),[]⟩
 | _=>none
theorem f47_run (R:AV→List Ob→Prop) (a:Int):fnA tab eZz0 Tryz.f47 (bodyOf Tryz.f47) [.int .i64 a] R=(R (AV.bool (a != a)) []):=by kernel_rfl
theorem ok47:ConOk Tryz.prog (47,con47):=by
 intro args t h hp
 simp only[con47] at h
 split at h
 · cases h
   refine fn_ok envZz0 tab_ok mixed Tryz.func47 (by kernel_rfl) (by kernel_rfl) ?_
   rw[f47_run]
   exact⟨rfl,rfl⟩
 · cases h
def consZz1:Cons:=(47,con47)::consZz0
def twosZz1:Cons2:=twosZz0
def pansZz1:Cons3:=pansZz0
def itersZz1:Cons4:=itersZz0
abbrev eZz1:Env:=envOf4 consZz1 twosZz1 pansZz1 itersZz1
theorem allconsZz1:∀c∈consZz1,ConOk Tryz.prog c:=all_cons ok47 allconsZz0
theorem alltwosZz1:∀c∈twosZz1,ConOk2 Tryz.prog c:=alltwosZz0
theorem allpansZz1:∀c∈pansZz1,ConOk3 Tryz.prog c:=allpansZz0
theorem allitersZz1:∀c∈itersZz1,ConOk4 Tryz.prog c:=allitersZz0
theorem envZz1:EnvOk Tryz.prog eZz1:=envOf4_ok _ _ _ _ allconsZz1 alltwosZz1 allpansZz1 allitersZz1
def cmpI (a b:Int):Int:=if a<b then -1 else if b<a then 1 else 0
def con22:List AV→Option Tells
 | [.int .i64 a,.int .i64 b]=>some ⟨[],.int .i64 (blk (cmpI a b)),[]⟩
 | _=>none
theorem f22_run (R:AV→List Ob→Prop) (a b:Int):fnA tab eZz1 Tryz.f22 (bodyOf Tryz.f22) [.int .i64 a,.int .i64 b] R=(bif a != a then bif b != b then R (AV.int .i64 0) [] else R (AV.int .i64 (-1)) [] else bif b != b then R (AV.int .i64 1) [] else bif decide (a<b) then R (AV.int .i64 (-1)) [] else bif decide (a>b) then R (AV.int .i64 1) [] else R (AV.int .i64 0) []):=by kernel_rfl
theorem ok22:ConOk Tryz.prog (22,con22):=by
 intro args t h hp
 change con22 args=some t at h
 unfold con22 at h
 split at h
 · rename_i a b
   cases h
   refine fn_ok envZz1 tab_ok mixed Tryz.func22 (by kernel_rfl) (by kernel_rfl) ?_
   rw[f22_run]
   try dsimp only
   have ha:(a != a)=false:=by simp
   have hb:(b != b)=false:=by simp
   rw[blk_eq,ha,hb]
   refine dec_split (fun h=>⟨by unfold cmpI;rw[if_pos h],rfl⟩) (fun h => ?_)
   refine dec_split (fun h'=>⟨by unfold cmpI;rw[if_neg h,if_pos h'],rfl⟩) (fun h'=>⟨by unfold cmpI;rw[if_neg h,if_neg h'],rfl⟩)
 · cases h
def orI (a b c:Int):Int:=if a≠0 then a else if b≠0 then b else c
theorem orI_eq (a b c:Int):(orI a b c)=bif a != 0 then a else bif b != 0 then b else bif c != 0 then c else 0:=by
 have q:∀x:Int,(x != 0)=decide (x≠0):=fun x=>by by_cases h:x=0<;>simp[h]
 rw[q,q,q]
 unfold orI
 by_cases h1:a=0<;>by_cases h2:b=0<;>by_cases h3:c=0<;>simp[h1,h2,h3]
def con21:List AV→Option Tells
 | [.list 3 (.int .i64) [a,b,c]]=>some ⟨[],.int .i64 (blk (orI a b c)),[]⟩
 | _=>none
def f21_live1:List Nat:=[8,7,6,8,3,8,3,2]
def f21_head1 (a:Int) (b:Int) (c:Int):St:={slots:=[AV.undef,AV.undef,AV.int .i64 0,AV.int .i64 0,AV.undef,AV.undef,AV.list 3 KI [a,b,c],AV.int .i64 (↑3:Int),AV.int .i64 0]++List.replicate 9 AV.undef,obs:=[]}
def f21_q1 (R:AV→List Ob→Prop):Ex→St→Prop:=blockA 0 (seqQ tab eZz1 (subC [1,1,1] (bodyOf Tryz.f21)) [2] (endA tab Tryz.f21 R))
def f21_loop1 (R:AV→List Ob→Prop) (a:Int) (b:Int) (c:Int):Prop:=loopT f21_live1 (codeA tab eZz1 (subC [1,1,0,1,0,0] (bodyOf Tryz.f21)) f21_live1) (f21_head1 a b c) (f21_q1 R)
theorem f21_eq1 (R:AV→List Ob→Prop) (a:Int) (b:Int) (c:Int):loopU f21_live1 (codeA tab eZz1 (subC [1,1,0,1,0,0] (bodyOf Tryz.f21)) f21_live1) 40 (f21_head1 a b c) (f21_q1 R)=((0:Int)≤0∧0<(↑3:Int)∧bif [a,b,c].getD 0 0 != 0 then R (AV.int .i64 ([a,b,c].getD 0 0)) [] else (0:Int)≤1∧1<(↑3:Int)∧bif [a,b,c].getD 1 0 != 0 then R (AV.int .i64 ([a,b,c].getD 1 0)) [] else (0:Int)≤2∧2<(↑3:Int)∧bif [a,b,c].getD 2 0 != 0 then R (AV.int .i64 ([a,b,c].getD 2 0)) [] else R (AV.int .i64 0) []):=by kernel_rfl
set_option maxHeartbeats 2000000 in
theorem f21_rule1 (R:AV→List Ob→Prop) (a:Int) (b:Int) (c:Int) (h:(0:Int)≤0∧0<(↑3:Int)∧bif [a,b,c].getD 0 0 != 0 then R (AV.int .i64 ([a,b,c].getD 0 0)) [] else (0:Int)≤1∧1<(↑3:Int)∧bif [a,b,c].getD 1 0 != 0 then R (AV.int .i64 ([a,b,c].getD 1 0)) [] else (0:Int)≤2∧2<(↑3:Int)∧bif [a,b,c].getD 2 0 != 0 then R (AV.int .i64 ([a,b,c].getD 2 0)) [] else R (AV.int .i64 0) []):f21_loop1 R a b c:=loop_rounds 40 (Eq.mpr (f21_eq1 R a b c) h)
theorem f21_run (R:AV→List Ob→Prop) (a b c:Int):fnA tab eZz1 Tryz.f21 (bodyOf Tryz.f21) [.list 3 (.int .i64) [a,b,c]] R=(f21_loop1 R a b c):=by kernel_rfl
theorem ok21:ConOk Tryz.prog (21,con21):=by
 intro args t h hp
 change con21 args=some t at h
 unfold con21 at h
 split at h
 · rename_i a b c
   cases h
   refine fn_ok envZz1 tab_ok mixed Tryz.func21 (by kernel_rfl) (by kernel_rfl) ?_
   rw[f21_run]
   try dsimp only
   rw[blk_eq]
   rw[orI_eq]
   refine f21_rule1 _ a b c ⟨by omega,by omega,?_⟩
   show bif a != 0 then _ else _
   refine cond_split (fun h => ?_) (fun h => ?_)
   · rw[h];exact⟨rfl,rfl⟩
   rw[h]
   refine⟨by omega,by omega,?_⟩
   show bif b != 0 then _ else _
   refine cond_split (fun h => ?_) (fun h => ?_)
   · rw[h];exact⟨rfl,rfl⟩
   rw[h]
   refine⟨by omega,by omega,?_⟩
   show bif c != 0 then _ else _
   refine cond_split (fun h => ?_) (fun h => ?_)
   · rw[h];exact⟨rfl,rfl⟩
   rw[h]
   exact⟨rfl,rfl⟩
 · cases h
def consZz2:Cons:=(22,con22)::(21,con21)::consZz0
def twosZz2:Cons2:=twosZz0
def pansZz2:Cons3:=pansZz0
def itersZz2:Cons4:=itersZz0
abbrev eZz2:Env:=envOf4 consZz2 twosZz2 pansZz2 itersZz2
theorem allconsZz2:∀c∈consZz2,ConOk Tryz.prog c:=all_cons ok22 (all_cons ok21 allconsZz0)
theorem alltwosZz2:∀c∈twosZz2,ConOk2 Tryz.prog c:=alltwosZz0
theorem allpansZz2:∀c∈pansZz2,ConOk3 Tryz.prog c:=allpansZz0
theorem allitersZz2:∀c∈itersZz2,ConOk4 Tryz.prog c:=allitersZz0
theorem envZz2:EnvOk Tryz.prog eZz2:=envOf4_ok _ _ _ _ allconsZz2 alltwosZz2 allpansZz2 allitersZz2
def cmpF (x y:Ft):Int:=orI (cmpI x.1 y.1) (cmpI x.2.1 y.2.1) (cmpI x.2.2 y.2.2)
def con20:List AV→Option Tells
 | [.agg (.cons (.int .i64 a) (.cons (.int .i64 b) (.cons (.int .i64 c) .nl))),.agg (.cons (.int .i64 d) (.cons (.int .i64 e) (.cons (.int .i64 f) .nl)))]=>some ⟨[],.int .i64 (blk (cmpF (a,b,c) (d,e,f))),[]⟩
 | _=>none
theorem f20_run (R:AV→List Ob→Prop) (a b c d e f:Int):fnA tab eZz2 Tryz.f20 (bodyOf Tryz.f20) [.agg (.cons (.int .i64 a) (.cons (.int .i64 b) (.cons (.int .i64 c) .nl))),.agg (.cons (.int .i64 d) (.cons (.int .i64 e) (.cons (.int .i64 f) .nl)))] R=(R (AV.int .i64 (blk (orI (blk (cmpI a d)) (blk (cmpI b e)) (blk (cmpI c f))))) []):=by kernel_rfl
theorem ok20:ConOk Tryz.prog (20,con20):=by
 intro args t h hp
 change con20 args=some t at h
 unfold con20 at h
 split at h
 · rename_i a b c d e f
   cases h
   refine fn_ok envZz2 tab_ok mixed Tryz.func20 (by kernel_rfl) (by kernel_rfl) ?_
   rw[f20_run]
   try dsimp only
   simp only[blk_eq]
   exact⟨rfl,trivial⟩
 · cases h
end
end Go.Proofs.YtkpjcmiijlpcaaaGreat.W
set_option linter.unusedVariables false
set_option linter.unusedSimpArgs false
namespace Go.Proofs
open Go.Shelf
def Tryz.sortF_ren:Go.Shelf.Ren:=⟨fun | 6=>19 | 15=>46 | 14=>45 | 28=>74 | 29=>75 | 20=>66 | 21=>67 | 22=>68 | 23=>69 | 24=>70 | 25=>71 | 26=>72 | 27=>73 | 46=>85 | 47=>86 | 48=>87 | 49=>88 | 50=>89 | 57=>106 | n=>n,fun | 22=>30 | 24=>40 | 25=>73 | 3=>3 | 39=>104 | 0=>0 | 53=>128 | 55=>130 | 4=>4 | 46=>121 | 45=>120 | 50=>125 | 5=>5 | 9=>9 | 66=>147 | 70=>151 | 76=>158 | 77=>43 | n=>n,fun | n=>n⟩
theorem Tryz.sortF:Go.Proofs.SlLaysF0.n6 Tryz.prog Tryz.sortF_ren:={
 mixed:=by kernel_rfl
 f6:=⟨Tryz.f19.name,by decide,Tryz.func19.trans (congrArg some (by kernel_rfl))⟩
 f14:=⟨Tryz.f45.name,by decide,Tryz.func45.trans (congrArg some (by kernel_rfl))⟩
 f15:=Tryz.func46.trans (congrArg some (by kernel_rfl))
 f20:=⟨Tryz.f66.name,by decide,Tryz.func66.trans (congrArg some (by kernel_rfl))⟩
 f21:=⟨Tryz.f67.name,by decide,Tryz.func67.trans (congrArg some (by kernel_rfl))⟩
 f22:=⟨Tryz.f68.name,by decide,Tryz.func68.trans (congrArg some (by kernel_rfl))⟩
 f23:=⟨Tryz.f69.name,by decide,Tryz.func69.trans (congrArg some (by kernel_rfl))⟩
 f24:=⟨Tryz.f70.name,by decide,Tryz.func70.trans (congrArg some (by kernel_rfl))⟩
 f25:=⟨Tryz.f71.name,by decide,Tryz.func71.trans (congrArg some (by kernel_rfl))⟩
 f26:=⟨Tryz.f72.name,by decide,Tryz.func72.trans (congrArg some (by kernel_rfl))⟩
 f27:=⟨Tryz.f73.name,by decide,Tryz.func73.trans (congrArg some (by kernel_rfl))⟩
 f28:=Tryz.func74.trans (congrArg some (by kernel_rfl))
 f29:=Tryz.func75.trans (congrArg some (by kernel_rfl))
 f46:=⟨Tryz.f85.name,by decide,Tryz.func85.trans (congrArg some (by kernel_rfl))⟩
 f47:=Tryz.func86.trans (congrArg some (by kernel_rfl))
 f48:=Tryz.func87.trans (congrArg some (by kernel_rfl))
 f49:=⟨Tryz.f88.name,by decide,Tryz.func88.trans (congrArg some (by kernel_rfl))⟩
 f50:=⟨Tryz.f89.name,by decide,Tryz.func89.trans (congrArg some (by kernel_rfl))⟩
 f57:=⟨Tryz.f106.name,by decide,Tryz.func106.trans (congrArg some (by kernel_rfl))⟩
 t0:=Tryz.underlying0
 a0:=Tryz.isAgg0
 z0:=Tryz.sizeOf0
 v0:=Tryz.zeroValue0
 t3:=Tryz.underlying3
 a3:=Tryz.isAgg3
 z3:=Tryz.sizeOf3
 v3:=Tryz.zeroValue3
 t4:=Tryz.underlying4
 a4:=Tryz.isAgg4
 z4:=Tryz.sizeOf4
 v4:=Tryz.zeroValue4
 t5:=Tryz.underlying5
 a5:=Tryz.isAgg5
 z5:=Tryz.sizeOf5
 v5:=Tryz.zeroValue5
 t9:=Tryz.underlying9
 a9:=Tryz.isAgg9
 z9:=Tryz.sizeOf9
 v9:=Tryz.zeroValue9
 t22:=Tryz.underlying30
 a22:=Tryz.isAgg30
 z22:=Tryz.sizeOf30
 v22:=Tryz.zeroValue30
 t25:=Tryz.underlying73
 a25:=Tryz.isAgg73
 z25:=Tryz.sizeOf73
 v25:=Tryz.zeroValue73
 t39:=Tryz.underlying104
 a39:=Tryz.isAgg104
 z39:=Tryz.sizeOf104
 v39:=Tryz.zeroValue104
 t45:=Tryz.underlying120
 a45:=Tryz.isAgg120
 z45:=Tryz.sizeOf120
 v45:=Tryz.zeroValue120
 t46:=Tryz.underlying121
 a46:=Tryz.isAgg121
 z46:=Tryz.sizeOf121
 v46:=Tryz.zeroValue121
 t50:=Tryz.underlying125
 a50:=Tryz.isAgg125
 z50:=Tryz.sizeOf125
 v50:=Tryz.zeroValue125
 t53:=Tryz.underlying128
 a53:=Tryz.isAgg128
 z53:=Tryz.sizeOf128
 v53:=Tryz.zeroValue128
 t55:=Tryz.underlying130
 a55:=Tryz.isAgg130
 z55:=Tryz.sizeOf130
 v55:=Tryz.zeroValue130
 t66:=Tryz.underlying147
 a66:=Tryz.isAgg147
 z66:=Tryz.sizeOf147
 v66:=Tryz.zeroValue147
 t70:=Tryz.underlying151
 a70:=Tryz.isAgg151
 z70:=Tryz.sizeOf151
 v70:=Tryz.zeroValue151
 t76:=Tryz.underlying158
 a76:=Tryz.isAgg158
 z76:=Tryz.sizeOf158
 v76:=Tryz.zeroValue158
 t77:=Tryz.underlying43
 a77:=Tryz.isAgg43
 z77:=Tryz.sizeOf43
 v77:=Tryz.zeroValue43}
end Go.Proofs
set_option linter.unusedVariables false
set_option linter.unusedSimpArgs false
namespace Go.Proofs.YtkpjcmiijlpcaaaGreat.W
open Go Go.Proofs Go.Proofs.YtkpjcmiijlpcaaaGreat.Aw Go.Sort Go.Shelf
noncomputable section
def encF (x:Ft):List Value:=[.int .i64 x.1,.int .i64 x.2.1,.int .i64 x.2.2]
theorem enc_DR {S:Nat→Prop} {w:World} {x:Ft} {cs:List Value} (h:DR S w TF x cs):cs=encF x:=by
 obtain⟨c1,c2,e,h1,c3,c4,e2,h3,h4⟩:=h
 have h1:c1=[.int .i64 x.1]:=h1
 have h3:c3=[.int .i64 x.2.1]:=h3
 have h4:c4=[.int .i64 x.2.2]:=h4
 rw[e,e2,h1,h3,h4];rfl
theorem DR_enc (S:Nat→Prop) (w:World) (x:Ft):DR S w TF x (encF x):=
 ⟨[.int .i64 x.1],[.int .i64 x.2.1,.int .i64 x.2.2],rfl,rfl,[.int .i64 x.2.1],[.int .i64 x.2.2],rfl,rfl,rfl⟩
theorem enc_Cat {S:Nat→Prop} {w:World}:∀(fs:List Ft) (cs:List Value),Cat (DR S w TF) fs cs→cs=fs.flatMap encF
 | [],cs,h=>h
 | x::xs,cs,⟨c1,c2,e,h1,h2⟩=>by rw[e,enc_DR h1,enc_Cat xs c2 h2];rfl
theorem Cat_enc (S:Nat→Prop) (w:World):∀fs:List Ft,Cat (DR S w TF) fs (fs.flatMap encF)
 | []=>rfl
 | x::xs=>⟨encF x,_,rfl,DR_enc S w x,Cat_enc S w xs⟩
theorem flat_enc:∀(fs:List Ft),(fs.flatMap encF).length=fs.length*3
 | []=>rfl
 | x::xs=>by rw[List.flatMap_cons,List.length_append,flat_enc xs,List.length_cons];simp[encF];omega
theorem flat_at:∀(fs:List Ft) (t:Nat),t<fs.length*3→(fs.flatMap encF)[t]? = (encF (fs.getD (t / 3) (0,0,0)))[t % 3]?
 | [],t,h=>by simp at h
 | x::xs,t,h=>by
  have e:(encF x).length=3:=rfl
  rw[List.flatMap_cons]
  by_cases ht:t<3
  · rw[List.getElem?_append_left (by omega),Nat.div_eq_of_lt ht,Nat.mod_eq_of_lt ht];rfl
  · rw[List.getElem?_append_right (by omega),e,flat_at xs (t-3) (by simp at h;omega)]
    have e1:t / 3=(t-3) / 3+1:=by omega
    have e2:t % 3=(t-3) % 3:=by omega
    rw[e1,e2];rfl
theorem flatK_enc (fs:List Ft):flatK encF 3 fs.toArray=(fs.flatMap encF).toArray:=by
 apply Array.ext_getElem?
 intro t
 have r:(fs.flatMap encF).toArray[t]? = (fs.flatMap encF)[t]? := by simp
 rw[r]
 by_cases ht:t<fs.length*3
 · rw[flat_at fs t ht,Array.getElem?_eq_getElem (by simpa using ht)]
   have hd:t / 3<fs.length:=by omega
   have e1:fs.toArray[t / 3]! = fs.getD (t / 3) (0,0,0):=by
    rw[getElem!_pos _ _ (by simpa using hd)]
    simp[List.getD,List.getElem?_eq_getElem hd]
   have hm:t % 3<(encF (fs.getD (t / 3) (0,0,0))).length:=by show t % 3<3;omega
   rw[List.getElem?_eq_getElem hm]
   simp only[flatK,Array.getElem_map,Array.getElem_range,e1]
   congr 1
   exact getElem!_pos (encF (fs.getD (t / 3) (0,0,0))) _ hm
 · rw[Array.getElem?_eq_none (by simpa using ht),List.getElem?_eq_none (by rw[flat_enc];omega)]
theorem fr_grow {w w':World} (h:Fr (fun _=>False) w w'):∃q os,w'=grow (w.drewN q) os:=by
 refine⟨w'.drawn-w.drawn,w'.heap.extract w.heap.size w'.heap.size,?_⟩
 have e1:w'.drawn=w.drawn+(w'.drawn-w.drawn):=by have:=h.drawn;omega
 have e2:w'.heap=w.heap++w'.heap.extract w.heap.size w'.heap.size:=by
  apply Array.ext_getElem?
  intro b
  by_cases hb:b<w.heap.size
  · rw[Array.getElem?_append_left hb,h.block b hb (fun hh=>hh)]
  · rw[Array.getElem?_append_right (by omega),Array.getElem?_extract]
    by_cases hb':b<w'.heap.size
    · rw[if_pos (by have:=h.size;omega),show w.heap.size+(b-w.heap.size)=b by omega]
    · rw[if_neg (by have:=h.size;omega),Array.getElem?_eq_none (by omega)]
 obtain⟨a1,a2,a3,a4,a5⟩:=w'
 have o:=h.os
 have t:=h.tape
 have p:=h.output
 simp only at o t p e1 e2
 simp only[grow,World.drewN]
 rw[o,t,p]
 congr
theorem cmp_lays (blk off size:Nat) (w:World):CmpLays Tryz.prog 20 #[] encF 3 cmpF blk off size w:=by
 intro m os dk _ x y
 have h:=(ok20 [.agg (.cons (.int .i64 x.1) (.cons (.int .i64 x.2.1) (.cons (.int .i64 x.2.2) .nl))),.agg (.cons (.int .i64 y.1) (.cons (.int .i64 y.2.1) (.cons (.int .i64 y.2.2) .nl)))] _ rfl (fun p hp=>by cases hp)).run (fun _=>False) (sortWorldK encF 3 w blk off m dk os) [.agg (encF x).toArray,.agg (encF y).toArray] (fun b hb=>hb.elim)
  ⟨_,_,rfl,⟨_,rfl,_,_,rfl,⟨_,rfl,rfl⟩,_,_,rfl,⟨_,rfl,rfl⟩,_,_,rfl,⟨_,rfl,rfl⟩,rfl⟩,_,_,rfl,⟨_,rfl,_,_,rfl,⟨_,rfl,rfl⟩,_,_,rfl,⟨_,rfl,rfl⟩,_,_,rfl,⟨_,rfl,rfl⟩,rfl⟩,rfl⟩
 refine h.mono ?_
 rintro e w' ⟨u,rfl,S',β',hr,hv⟩
 have hu:=VL.int hv
 rw[blk_eq] at hu
 exact⟨by rw[hu],fr_grow hr.fr⟩
theorem lt_iff (x y:Ft):ltOf cmpF x y=decide (x.1<y.1∨x.1=y.1∧(x.2.1<y.2.1∨x.2.1=y.2.1∧x.2.2<y.2.2)):=by
 unfold ltOf
 apply decide_eq_decide.2
 unfold cmpF orI cmpI
 split<;>split<;>(try split)<;>(try split)<;>omega
theorem swo:SWO (ltOf cmpF) where
 irrefl x:=by rw[lt_iff];simp
 trans x y z h1 h2:=by rw[lt_iff] at *;simp only[decide_eq_true_eq] at *;omega
 ntrans x y z h1 h2:=by rw[lt_iff] at *;simp only[decide_eq_false_iff_not] at *;omega
theorem lt_total (x y:Ft) (h1:ltOf cmpF x y=false) (h2:ltOf cmpF y x=false):x=y:=by
 rw[lt_iff] at *
 simp only[decide_eq_false_iff_not] at *
 obtain⟨a,b,c⟩:=x
 obtain⟨d,e,f⟩:=y
 simp only at h1 h2
 have:a=d∧b=e∧c=f:=by omega
 obtain⟨rfl,rfl,rfl⟩:=this
 rfl
def srtF (fs:List Ft):List Ft:=fs.mergeSort fun x y => !(ltOf cmpF) y x
theorem srt_perm (fs:List Ft):(srtF fs).Perm fs:=List.mergeSort_perm _ _
theorem srt_len (fs:List Ft):(srtF fs).length=fs.length:=(srt_perm fs).length_eq
def con19:List AV→List Ob→Option Tells2
 | [.row 0,.fn (.func 20) .nl .nl],[.row 40 (.pair (.int .i64) (.pair (.int .i64) (.int .i64))) fs]=>some ⟨[fs.length≤1099511627776],.tuple .nl,[some (.row 40 TF (blk (srtF fs)))],[]⟩
 | _,_=>none
theorem block_holds {w:World} {g:Nat} {cur:Array Value} {e:TypeId} {fs:List Ft} (hb:w.heap[g]? = some (.cells cur e (0,0))) (ht:cur.toList.take (fs.length*3)=fs.flatMap encF):HoldsK encF 3 w g 0 fs.toArray:=by
 unfold HoldsK
 rw[flatK_enc]
 intro j hj
 have hj':j<(fs.flatMap encF).length:=by simpa using hj
 have hj3:j<fs.length*3:=by rw[←flat_enc];exact hj'
 refine⟨?_,by simp[World.frozen?,hb]⟩
 have h1:(cur.toList.take (fs.length*3))[j]? = (fs.flatMap encF)[j]? := by rw[ht]
 rw[List.getElem?_take_of_lt hj3] at h1
 simp only[World.cell?,hb,Nat.zero_add]
 simp only[Option.isSome_none,Bool.false_eq_true,if_false]
 rw[←Array.getElem?_toList,h1,List.getElem?_eq_getElem hj',getElem!_pos _ j hj]
 rfl
theorem sorted_heap {w:World} {g n:Nat} {os:Array Obj} {cur:Array Value} {e:TypeId} (ts:List Ft) (hb:w.heap[g]? = some (.cells cur e (0,0))) :
 (sortWorldK encF 3 w g 0 n ts.toArray os).heap[g]? = some (.cells (putCells id 0 (ts.flatMap encF).toArray cur) e (0,0)):=by
 have hg:g<w.heap.size:=(Array.getElem?_eq_some_iff.1 hb).1
 unfold sortWorldK putRowK
 rw[heap_grow_old _ _ (by simpa using hg),flatK_enc]
 simp[putRow,mapBlock,Sort.ahead,Array.getElem?_modify,hb,onCells]
theorem sorted_grown {w:World} {g n:Nat} {os:Array Obj} (d:Array Ft):w.grownBy (sortWorldK encF 3 w g 0 n d os) (some g):=by
 unfold sortWorldK putRowK
 refine⟨rfl,rfl,rfl,by simp,fun k hk hne => ?_⟩
 rw[heap_grow_old _ _ (by simpa using hk)]
 have:g≠k:=fun e=>hne (by rw[e])
 simp[putRow,mapBlock,Sort.ahead,Array.getElem?_modify,this]
theorem sorted_take (cur:Array Value) (ts:List Ft) (h:ts.length*3≤cur.size):(putCells id 0 (ts.flatMap encF).toArray cur).toList.take (ts.length*3)=ts.flatMap encF:=by
 have hl:=flat_enc ts
 obtain⟨L,hL⟩:∃L,L=ts.flatMap encF:=⟨_,rfl⟩
 rw[←hL] at hl ⊢
 apply List.ext_getElem?
 intro j
 by_cases hj:j<ts.length*3
 · rw[List.getElem?_take_of_lt hj,Array.getElem?_toList]
   have hj':j<L.length:=by omega
   simp[putCells,hj',show j<cur.size by omega]
 · rw[List.getElem?_take_eq_none (by omega),List.getElem?_eq_none (by omega)]
theorem ok19:ConOk2 Tryz.prog (19,con19):=by
 intro args obs t h hp
 change con19 args obs=some t at h
 unfold con19 at h
 split at h
 rotate_left
 · cases h
 rename_i fs
 change List Ft at fs
 cases h
 have hsz:=hp (fs.length≤1099511627776) (by simp)
 clear hp
 refine⟨⟨Tryz.f19,Tryz.func19,by kernel_rfl,by kernel_rfl⟩,fun S β w vs hrel hvs => ?_⟩
 obtain⟨v0,r,e1,⟨u0,e2,hv0⟩,⟨v1,r',e3,⟨cx,cy,e4,e5,e6⟩,e7⟩⟩:=hvs
 cases e2
 have e5:cx=[]:=e5
 have e6:cy=[]:=e6
 have e7:r'=[]:=e7
 subst e5 e6 e7
 simp only[List.cons.injEq,and_true] at e4
 subst e3 e4 e1
 have hv0:v0=rowV (β 0) fs.length:=hv0
 have hob:=hrel.ob 0
 change ObR S w β (newsH [.row 40 TF fs]) (β 0) (.row 40 TF fs) at hob
 have hsame:fs=[]→Calls Tryz.prog 19 #[v0,.func (.func 20) #[] #[]] w fun e w'=>∃u,e=endOf none u∧∃S' β',Rel (Mof β [.row 40 TF fs]) S w S' β' (newsH [.row 40 TF (blk (srtF fs))]) w'∧VL S' w' β' (newsH [.row 40 TF (blk (srtF fs))]) (.tuple .nl) [u]∧∀i,i<1→ObExt (β i) (newsH [.row 40 TF fs] i) (β' i) (newsH [.row 40 TF (blk (srtF fs))] i):=by
  intro hn
  subst hn
  have hs:srtF []=[]:=by simp[srtF]
  rw[blk_eq,hs]
  have hc:∃p cap,v0=.slice p 0 cap:=by
   rw[hv0];unfold rowV;split<;>exact⟨_,_,rfl⟩
  obtain⟨p,cap,hc⟩:=hc
  rw[hc]
  have hcon:=AnyF.slices_SortFunc_none Tryz.sortF p cap (.func (.func 20) #[] #[]) w
  change Calls Tryz.prog 19 _ _ _ at hcon
  refine hcon.mono ?_
  rintro e w' ⟨rfl,rfl⟩
  exact⟨_,rfl,S,β,hrel,⟨_,rfl,rfl⟩,fun i _=>ObExt.refl _ _⟩
 rcases hob with ⟨q1,q2⟩ | ⟨g,cur,q1,q2,q3,q4,q5,q6⟩
 · exact hsame q2
 have q3:fs.length≤(β 0).cap:=q3
 have q5:cur.size=(β 0).cap*3:=q5
 have q6:Cat (DR S w TF) fs (cur.toList.take (fs.length*3)):=q6
 have ht:=enc_Cat fs _ q6
 have hlive:(newsH [.row 40 TF fs] 0).live=true:=rfl
 have hgs:=hrel.own 0 g hlive (.inl q1)
 have hcon:=AnyQ.slices_SortFunc_total Tryz.sortF 3 Tryz.isAgg40 Tryz.sizeOf40 encF (fun _=>rfl) (fun x v hv=>by simp[encF] at hv;rcases hv with rfl | rfl | rfl<;>rfl) cmpF swo 20 #[] g 0 (β 0).cap fs.toArray w (enters_of Tryz.func20 (by kernel_rfl) rfl) (cmp_lays g 0 _ w) (block_holds q2 ht) hgs.2.1 (by simp;omega) lt_total
 change Calls Tryz.prog 19 _ _ _ at hcon
 have hv0':v0=.slice (some ⟨g,0,none⟩) fs.toArray.size (β 0).cap:=by
  rw[hv0];unfold rowV;rw[q1];simp
 rw[hv0']
 refine hcon.mono ?_
 rintro e w' ⟨rfl,n,os,hw⟩
 have hw:w'=sortWorldK encF 3 w g 0 n (srtF fs).toArray os:=hw
 have hgr:w.grownBy w' (some g):=by rw[hw];exact sorted_grown _
 have hheap:w'.heap[g]? = some (.cells (putCells id 0 ((srtF fs).flatMap encF).toArray cur) 40 (0,0)):=by rw[hw];exact sorted_heap _ q2
 have hdr:w.drawn≤w'.drawn:=by
  rw[hw];unfold sortWorldK putRowK grow putRow mapBlock Sort.ahead
  exact Nat.le_add_right _ _
 rw[blk_eq]
 have hO:∀k,ObExt (β k) (newsH [.row 40 TF fs] k) (β k) (newsH [.row 40 TF (srtF fs)] k):=fun k=>by
  cases k with
  | zero=>exact .inr ⟨rfl,srtF fs,rfl,srt_len fs⟩
  | succ k=>exact trivial
 have hz:∀k,(newsH [.row 40 TF (srtF fs)] k).live=true→k=0:=fun k hk=>by
  cases k with
  | zero=>rfl
  | succ k=>cases hk
 obtain⟨hr,hx⟩:=hrel.step (β':=β) (H':=newsH [.row 40 TF (srtF fs)]) (fun b=>b=g) hgr.os hgr.tape hgr.output hgr.size (fun b hb=>⟨0,hlive,.inl (by rw[hb];exact q1)⟩)
  (fun b hb hn=>hgr.block b hb (fun e=>hn (Option.some.inj e))) hO
  (fun k b hk hb=>.inl ⟨0,hlive,by have:=hz k hk;subst this;exact hb⟩)
  (fun k k' b hk hk' _ _=>by rw[hz k hk,hz k' hk'])
  (fun _ k hk=>by
   have:=hz k hk
   subst this
   refine .inr (.inr ⟨g,_,q1,hheap,?_,q4,?_,?_⟩)
   · rw[srt_len];exact q3
   · simp[putCells];exact q5
   · have hle:(srtF fs).length*3≤cur.size:=by rw[srt_len,q5];exact Nat.mul_le_mul_right _ q3
     show Cat (DR S w' TF) (srtF fs) ((putCells id 0 ((srtF fs).flatMap encF).toArray cur).toList.take ((srtF fs).length*3))
     rw[sorted_take cur _ hle]
     exact Cat_enc S w' _)
 exact⟨_,rfl,S,β,hr,⟨_,rfl,rfl⟩,fun i _=>hO i⟩
end
end Go.Proofs.YtkpjcmiijlpcaaaGreat.W
set_option linter.unusedVariables false
set_option linter.unusedSimpArgs false
namespace Go.Proofs.YtkpjcmiijlpcaaaGreat.W
open Go Go.Proofs Go.Proofs.YtkpjcmiijlpcaaaGreat.Aw
noncomputable section
def consY0:Cons:=consQ5
def twosY0:Cons2:=(19,con19)::twosQ5
def pansY0:Cons3:=pansQ5
def itersY0:Cons4:=itersQ5
abbrev eY0:Env:=envOf4 consY0 twosY0 pansY0 itersY0
theorem allconsY0:∀c∈consY0,ConOk Tryz.prog c:=allconsQ5
theorem alltwosY0:∀c∈twosY0,ConOk2 Tryz.prog c:=all_cons ok19 alltwosQ5
theorem allpansY0:∀c∈pansY0,ConOk3 Tryz.prog c:=allpansQ5
theorem allitersY0:∀c∈itersY0,ConOk4 Tryz.prog c:=allitersQ5
theorem envY0:EnvOk Tryz.prog eY0:=envOf4_ok _ _ _ _ allconsY0 alltwosY0 allpansY0 allitersY0
def j1Step (xs:List Nd) (bs:List R4) (fs:List Ft) (i:Int):List Ft:=bif (ndAt xs i).1.2.1==2 then flL xs bs i fs else bif (ndAt xs i).1.2.1==3 then agL xs bs (ndAt xs i).2.2.2.1 i (bs.getD i.toNat (0,0,0,0)) 7 i fs else fs
def j2Step (xs:List Nd) (bs:List R4) (fs:List Ft) (i:Int) (l:Ln):List Ft:=bif rightB xs l.1 l.2.2.1 l.2.2.2 then agL xs bs (ndAt xs l.1).2.2.2.1 l.2.2.1 l.2.1 6 i fs else fnd true (1,i,-1) fs
def j1L (xs:List Nd) (bs:List R4):Nat→List Ft
 | 0=>[]
 | k+1=>j1Step xs bs (j1L xs bs k) (k+1:Nat)
def j2L (xs:List Nd) (bs:List R4) (ls:List Ln) (f0:List Ft):Nat→List Ft
 | 0=>f0
 | k+1=>j2Step xs bs (j2L xs bs ls f0 k) k (ls.getD k (0,(0,0,0,0),0,0))
def judgeL (xs:List Nd) (bs:List R4) (ls:List Ln):List Ft:=j2L xs bs ls (j1L xs bs (xs.length-1)) ls.length
def judgeA (xs:List Nd) (bs:List R4) (ls:List Ln):List Ft:=if xs.length=bs.length then srtF (judgeL xs bs ls) else [(1,-1,-1)]
theorem flStep_len (xs:List Nd) (bs:List R4) (i:Int) (fs:List Ft) (j:Int):(flStep xs bs i fs j).length≤fs.length+3:=by
 unfold flStep
 exact Nat.le_trans (fnd_len _ _ _) (Nat.succ_le_succ (Nat.le_trans (fnd_len _ _ _) (Nat.succ_le_succ (fnd_len _ _ _))))
theorem flL_len {xs:List Nd} (t:TrOk xs) (bs:List R4) (i:Int) (fs:List Ft):(flL xs bs i fs).length≤fs.length+196609:=by
 unfold flL
 have h1:=fnd_len (sideW (ndAt xs i).1 (mgL xs bs i) (ndAt xs (parL xs i)).1.2.2.2.2.2.2.2 (bs.getD (parL xs i).toNat (0,0,0,0)).1 (bs.getD (parL xs i).toNat (0,0,0,0)).2.2.1) (4,i,parL xs i) fs
 generalize fnd _ (4,i,parL xs i) fs=f0 at h1 ⊢
 have h2:=flt_len t (ndAt xs i).2.2.2.1 i
 generalize fltL xs (ndAt xs i).2.2.2.1 i=q at h2 ⊢
 have h3:=fold_len (g:=flStep xs bs i) (d:=3) (flStep_len xs bs i) q f0
 generalize (List.foldl (flStep xs bs i) f0 q).length=a at h3 ⊢
 omega
theorem agL_len {xs:List Nd} (t:TrOk xs) (bs:List R4) (c a:Int) (r:R4) (u i:Int) (fs:List Ft):(agL xs bs c a r u i fs).length≤fs.length+65536:=by
 have h2:=flt_len t c a
 have h3:=fold_len (g:=agStep xs bs r u i) (d:=1) (fun fs j=>fnd_len _ _ fs) (fltL xs c a) fs
 unfold agL
 omega
theorem j1L_len {xs:List Nd} (t:TrOk xs) (bs:List R4):∀k,(j1L xs bs k).length≤k*196609
 | 0=>by simp[j1L]
 | k+1=>by
  have h:=j1L_len t bs k
  have h1:=flL_len t bs ((k+1:Nat):Int) (j1L xs bs k)
  have h2:=agL_len t bs (ndAt xs ((k+1:Nat):Int)).2.2.2.1 ((k+1:Nat):Int) (bs.getD ((k+1:Nat):Int).toNat (0,0,0,0)) 7 ((k+1:Nat):Int) (j1L xs bs k)
  simp only[j1L,j1Step]
  generalize (flL xs bs ((k+1:Nat):Int) (j1L xs bs k))=f1 at h1 ⊢
  generalize (agL xs bs (ndAt xs ((k+1:Nat):Int)).2.2.2.1 ((k+1:Nat):Int) (bs.getD ((k+1:Nat):Int).toNat (0,0,0,0)) 7 ((k+1:Nat):Int) (j1L xs bs k))=f2 at h2 ⊢
  generalize j1L xs bs k=f0 at h h1 h2 ⊢
  rw[Nat.add_mul]
  cases (ndAt xs ((k+1:Nat):Int)).1.2.1==2 with
  | true=>rw[cond_true];omega
  | false=>
   rw[cond_false]
   cases (ndAt xs ((k+1:Nat):Int)).1.2.1==3 with
   | true=>rw[cond_true];omega
   | false=>rw[cond_false];exact Nat.le_trans h (Nat.le_add_right _ _)
theorem j2L_len {xs:List Nd} (t:TrOk xs) (bs:List R4) (ls:List Ln) (f0:List Ft):∀k,(j2L xs bs ls f0 k).length≤f0.length+k*65536
 | 0=>by simp[j2L]
 | k+1=>by
  have h:=j2L_len t bs ls f0 k
  simp only[j2L,j2Step]
  generalize ls.getD k (0,(0,0,0,0),0,0)=l
  have h1:=fnd_len true (1,(k:Int),-1) (j2L xs bs ls f0 k)
  have h2:=agL_len t bs (ndAt xs l.1).2.2.2.1 l.2.2.1 l.2.1 6 k (j2L xs bs ls f0 k)
  cases rightB xs l.1 l.2.2.1 l.2.2.2 with
  | true=>rw[cond_true];omega
  | false=>rw[cond_false];omega
def con6:List AV→List Ob→Option Tells2
 | [.lptr 88 (.list 92 (.pair (.pair (.int .i64) (.pair (.int .i64) (.pair (.int .i64) (.pair (.int .i64) (.pair (.int .i64) (.pair (.int .i64) (.pair (.pair (.int .i64) (.pair (.int .i64) (.pair (.int .i64) (.int .i64)))) (.pair (.int .i64) (.pair (.int .i64) (.pair (.int .i64) (.int .i64))))))))))) (.pair (.int .i64) (.pair (.int .i64) (.pair (.int .i64) (.list 3 (.int .i64))))))) [xs] 0 0,.agg (.cons (.list 57 (.pair (.int .i64) (.pair (.int .i64) (.pair (.int .i64) (.int .i64)))) bs) (.cons (.list 67 (.pair (.int .i64) (.pair (.pair (.int .i64) (.pair (.int .i64) (.pair (.int .i64) (.int .i64)))) (.pair (.int .i64) (.int .i64)))) ls) .nl))],[]=>some ⟨[TrOk xs,0<xs.length,ls.length≤65536],.row 0,[],[.row 40 TF (blk (judgeA xs bs ls))]⟩
 | _,_=>none
def f6_cuts:List Nat:=[7]
def f6_live1:List Nat:=[6,0,0,6,5,6,5,0,6,6,3,6,6,6,3,5,5,5,0,5,5,4]
set_option maxHeartbeats 2000000 in
def f6_head1 (xs:List TN.den) (bs:List T4.den) (ls:List TL.den) (s6:Int) (o3:List (Int×Int×Int)):St:={slots:=[AV.lptr 88 (Ty.list 92 TN) [xs] 0 0,AV.undef,AV.undef,AV.ptr 0 0,AV.row 1,AV.ptr 2 0,AV.int .i64 s6]++List.replicate 79 AV.undef,obs:=[Ob.cells 35 [AV.list 57 T4 bs,AV.list 67 (KI.pair (T4.pair (KI.pair KI))) ls],Ob.row 40 (KI.pair (KI.pair KI)) [],Ob.cells 61 [AV.lptr 88 (Ty.list 92 TN) [xs] 0 0,AV.list 57 T4 bs,AV.list 67 (KI.pair (T4.pair (KI.pair KI))) ls,AV.row 3],Ob.row 40 (KI.pair (KI.pair KI)) o3]}
def f6_q1 (R:AV→List Ob→Prop):Ex→St→Prop:=blockA 0 (seqQ tab (eY0.cut f6_cuts) (subC [1,1,1,1] (bodyOf Tryz.f6)) [4] (endA tab Tryz.f6 R))
def f6_loop1 (R:AV→List Ob→Prop) (xs:List TN.den) (bs:List T4.den) (ls:List TL.den) (s6:Int) (o3:List (Int×Int×Int)):Prop:=loopT f6_live1 (codeA tab (eY0.cut f6_cuts) (subC [1,1,1,0,1,0,0] (bodyOf Tryz.f6)) f6_live1) (f6_head1 xs bs ls s6 o3) (f6_q1 R)
set_option maxHeartbeats 2000000 in
def f6_j2 (R:AV→List Ob→Prop) (xs:List TN.den) (bs:List T4.den) (ls:List TL.den) (s6:Int) (J:St→Prop) (o3'_2:List (Int×Int×Int)):Prop:=Meet (fun s=>codeA tab (eY0.cut f6_cuts) (subC [1,1,1,0,1,0,0,1,1] (bodyOf Tryz.f6)) [6,0,0,6,5,6,5,0,6,6,3,6,6,6,3,5,5,5,0,5,5,4] s (thenA (fun s=>J (St.tidy f6_live1 s)) (blockA 0 (seqQ tab (eY0.cut f6_cuts) (subC [1,1,1,1] (bodyOf Tryz.f6)) [4] (endA tab Tryz.f6 R))))) {slots:=[AV.lptr 88 (Ty.list 92 TN) [xs] 0 0,AV.undef,AV.undef,AV.ptr 0 0,AV.row 1,AV.ptr 2 0,AV.int .i64 s6]++List.replicate 79 AV.undef,obs:=[Ob.cells 35 [AV.list 57 T4 bs,AV.list 67 (KI.pair (T4.pair (KI.pair KI))) ls],Ob.row 40 (KI.pair (KI.pair KI)) [],Ob.cells 61 [AV.lptr 88 (Ty.list 92 TN) [xs] 0 0,AV.list 57 T4 bs,AV.list 67 (KI.pair (T4.pair (KI.pair KI))) ls,AV.row 3],Ob.row 40 (KI.pair (KI.pair KI)) o3'_2]}
theorem f6_jeq2 (R:AV→List Ob→Prop) (xs:List TN.den) (bs:List T4.den) (ls:List TL.den) (s6:Int) (J:St→Prop) (o3'_2:List (Int×Int×Int)):f6_j2 R xs bs ls s6 J o3'_2=(J (f6_head1 xs bs ls (IntKind.i64.wrap (s6+1)) o3'_2)):=(meet_eq _ _).trans (by kernel_rfl)
def f6_live3:List Nat:=[53,52,53,51,53,5,5,5,0,53,5,5,4]
set_option maxHeartbeats 2000000 in
def f6_head3 (xs:List TN.den) (bs:List T4.den) (ls:List TL.den) (s53':Int) (o2':List (Int×Int×Int)):St:={slots:=[AV.lptr 88 (Ty.list 92 TN) [xs] 0 0,AV.undef,AV.undef,AV.undef,AV.row 0,AV.ptr 1 0]++List.replicate 45 AV.undef++[AV.list 67 (KI.pair (T4.pair (KI.pair KI))) ls,AV.int .i64 (↑ls.length:Int),AV.int .i64 s53']++List.replicate 32 AV.undef,obs:=[Ob.row 40 (KI.pair (KI.pair KI)) [],Ob.cells 61 [AV.lptr 88 (Ty.list 92 TN) [xs] 0 0,AV.list 57 T4 bs,AV.list 67 (KI.pair (T4.pair (KI.pair KI))) ls,AV.row 2],Ob.row 40 (KI.pair (KI.pair KI)) o2']}
def f6_q3 (R:AV→List Ob→Prop):Ex→St→Prop:=blockA 3 (seqQ tab (eY0.cut f6_cuts) (subC [1,1,1,1,1] (bodyOf Tryz.f6)) [4] (endA tab Tryz.f6 R))
def f6_loop3 (R:AV→List Ob→Prop) (xs:List TN.den) (bs:List T4.den) (ls:List TL.den) (s53':Int) (o2':List (Int×Int×Int)):Prop:=loopT f6_live3 (codeA tab (eY0.cut f6_cuts) (subC [1,1,1,1,0,1,0,0] (bodyOf Tryz.f6)) f6_live3) (f6_head3 xs bs ls s53' o2') (f6_q3 R)
def f6_rhs3 (R:AV→List Ob→Prop) (xs:List TN.den) (bs:List T4.den) (ls:List TL.den) (J1:St→Prop) (s53':Int) (o2':List (Int×Int×Int)):Prop:=bif decide (s53'<(↑ls.length:Int)) then 0≤s53'∧s53'<(↑ls.length:Int)∧TrOk xs∧bif !blk (rightB xs (ls.getD s53'.toNat (0,(0,0,0,0),0,0)).fst (ls.getD s53'.toNat (0,(0,0,0,0),0,0)).snd.snd.fst (ls.getD s53'.toNat (0,(0,0,0,0),0,0)).snd.snd.snd) then o2'.length≤1099511627776∧J1 (f6_head3 xs bs ls (IntKind.i64.wrap (s53'+1)) (fnd true (1,s53',-1) o2')) else TrOk xs∧xs.length=bs.length∧o2'.length≤549755813888∧J1 (f6_head3 xs bs ls (IntKind.i64.wrap (s53'+1)) (agL xs bs (ndAt xs (ls.getD s53'.toNat (0,(0,0,0,0),0,0)).fst).snd.snd.snd.fst (ls.getD s53'.toNat (0,(0,0,0,0),0,0)).snd.snd.fst ((ls.getD s53'.toNat (0,(0,0,0,0),0,0)).snd.fst.fst,(ls.getD s53'.toNat (0,(0,0,0,0),0,0)).snd.fst.snd.fst,(ls.getD s53'.toNat (0,(0,0,0,0),0,0)).snd.fst.snd.snd.fst,(ls.getD s53'.toNat (0,(0,0,0,0),0,0)).snd.fst.snd.snd.snd) 6 s53' o2')) else o2'.length≤1099511627776∧(blk (srtF o2')).length=o2'.length∧R (AV.row 0) [Ob.row 40 (KI.pair (KI.pair KI)) (blk (srtF o2'))]
theorem f6_eq3 (R:AV→List Ob→Prop) (xs:List TN.den) (bs:List T4.den) (ls:List TL.den) (J1:St→Prop) (s53':Int) (o2':List (Int×Int×Int)):codeA tab (eY0.cut f6_cuts) (subC [1,1,1,1,0,1,0,0] (bodyOf Tryz.f6)) f6_live3 (f6_head3 xs bs ls s53' o2') (thenA (fun s=>J1 (St.tidy f6_live3 s)) (f6_q3 R))=f6_rhs3 R xs bs ls J1 s53' o2':=by kernel_rfl
set_option maxHeartbeats 2000000 in
theorem f6_rule3 (R:AV→List Ob→Prop) (xs:List TN.den) (bs:List T4.den) (ls:List TL.den) (I:Nat→(Int)→(List (Int×Int×Int))→Prop) (n:Nat) (s53':Int) (o2':List (Int×Int×Int)) (h0:I n s53' o2') (h:∀n,∀(s53':Int) (o2':List (Int×Int×Int)),I n s53' o2'→f6_rhs3 R xs bs ls (fun t=>∃m,m<n∧∃(s53':Int) (o2':List (Int×Int×Int)),t=f6_head3 xs bs ls s53' o2'∧I m s53' o2') s53' o2'):f6_loop3 R xs bs ls s53' o2':=
 loop_intro (fun n t=>∃(s53':Int) (o2':List (Int×Int×Int)),t=f6_head3 xs bs ls s53' o2'∧I n s53' o2') n ⟨s53',o2',rfl,h0⟩ (fun n t ht=>by obtain⟨s53',o2',rfl,hI⟩:=ht;exact Eq.mpr (f6_eq3 R xs bs ls (fun t=>∃m,m<n∧∃(s53':Int) (o2':List (Int×Int×Int)),t=f6_head3 xs bs ls s53' o2'∧I m s53' o2') s53' o2') (h n s53' o2' hI))
def f6_rhs1 (R:AV→List Ob→Prop) (xs:List TN.den) (bs:List T4.den) (ls:List TL.den) (J:St→Prop) (s6:Int) (o3:List (Int×Int×Int)):Prop:=bif decide (s6<(↑(List.length ([xs].getD 0 [])):Int)) then bif (ndAt xs s6).fst.snd.fst==2 then TrOk xs∧xs.length=bs.length∧o3.length≤549755813888∧0<s6∧s6<(↑xs.length:Int)∧f6_j2 R xs bs ls s6 J (flL xs bs s6 o3) else bif (ndAt xs s6).fst.snd.fst==3 then 0≤s6∧s6<(↑bs.length:Int)∧TrOk xs∧xs.length=bs.length∧o3.length≤549755813888∧f6_j2 R xs bs ls s6 J (agL xs bs (ndAt xs s6).snd.snd.snd.fst s6 ((bs.getD s6.toNat (0,0,0,0)).fst,(bs.getD s6.toNat (0,0,0,0)).snd.fst,(bs.getD s6.toNat (0,0,0,0)).snd.snd.fst,(bs.getD s6.toNat (0,0,0,0)).snd.snd.snd) 7 s6 o3) else f6_j2 R xs bs ls s6 J o3 else f6_loop3 R xs bs ls 0 o3
theorem f6_eq1 (R:AV→List Ob→Prop) (xs:List TN.den) (bs:List T4.den) (ls:List TL.den) (J:St→Prop) (s6:Int) (o3:List (Int×Int×Int)):codeA tab (eY0.cut f6_cuts) (subC [1,1,1,0,1,0,0] (bodyOf Tryz.f6)) f6_live1 (f6_head1 xs bs ls s6 o3) (thenA (fun s=>J (St.tidy f6_live1 s)) (f6_q1 R))=f6_rhs1 R xs bs ls J s6 o3:=by kernel_rfl
set_option maxHeartbeats 2000000 in
theorem f6_rule1 (R:AV→List Ob→Prop) (xs:List TN.den) (bs:List T4.den) (ls:List TL.den) (I:Nat→(Int)→(List (Int×Int×Int))→Prop) (n:Nat) (s6:Int) (o3:List (Int×Int×Int)) (h0:I n s6 o3) (h:∀n,∀(s6:Int) (o3:List (Int×Int×Int)),I n s6 o3→f6_rhs1 R xs bs ls (fun t=>∃m,m<n∧∃(s6:Int) (o3:List (Int×Int×Int)),t=f6_head1 xs bs ls s6 o3∧I m s6 o3) s6 o3):f6_loop1 R xs bs ls s6 o3:=
 loop_intro (fun n t=>∃(s6:Int) (o3:List (Int×Int×Int)),t=f6_head1 xs bs ls s6 o3∧I n s6 o3) n ⟨s6,o3,rfl,h0⟩ (fun n t ht=>by obtain⟨s6,o3,rfl,hI⟩:=ht;exact Eq.mpr (f6_eq1 R xs bs ls (fun t=>∃m,m<n∧∃(s6:Int) (o3:List (Int×Int×Int)),t=f6_head1 xs bs ls s6 o3∧I m s6 o3) s6 o3) (h n s6 o3 hI))
theorem f6_run (R:AV→List Ob→Prop) (xs:List TN.den) (bs:List T4.den) (ls:List TL.den):fnB tab (eY0.cut f6_cuts) Tryz.f6 (bodyOf Tryz.f6) [.lptr 88 (.list 92 TN) [xs] 0 0,.agg (.cons (.list 57 T4 bs) (.cons (.list 67 TL ls) .nl))] [] R=(bif (↑bs.length:Int) != (↑(List.length ([xs].getD 0 [])):Int) then R (AV.row 0) [Ob.row 40 (KI.pair (KI.pair KI)) [(1,-1,-1)]] else f6_loop1 R xs bs ls 1 []):=by kernel_rfl
theorem ok6:ConOk2 Tryz.prog (6,con6):=by
 intro args obs t h hp
 change con6 args obs=some t at h
 unfold con6 at h
 split at h
 · rename_i xs bs ls
   change List TN.den at xs
   change List T4.den at bs
   change List TL.den at ls
   cases h
   refine fn_ok2 (envY0.cut f6_cuts) tab_ok mixed Tryz.func6 (by kernel_rfl) (by kernel_rfl) ?_
   rw[f6_run]
   try dsimp only
   have ht:=hp (TrOk xs) (by simp)
   have hx0:=hp (0<xs.length) (by simp)
   have hls:=hp (ls.length≤65536) (by simp)
   clear hp
   rw[blk_eq]
   have hxl:xs.length≤65536:=ht.len
   have hz:([xs].getD 0 [])=xs:=rfl
   refine cond_split (fun hne => ?_) (fun hne => ?_)
   · have hn:¬xs.length=bs.length:=fun e=>by
      rw[hz,e] at hne
      simp at hne
     unfold judgeA
     rw[if_neg hn]
     exact⟨rfl,rfl⟩
   have hb:xs.length=bs.length:=by
    rw[hz,bne_eq_false_iff_eq] at hne
    omega
   have hA:judgeA xs bs ls=srtF (judgeL xs bs ls):=if_pos hb
   rw[hA]
   refine f6_rule1 _ xs bs ls (fun n s o=>∃k:Nat,k+1≤xs.length∧n=xs.length-k∧s=(k+1:Nat)∧o=j1L xs bs k) xs.length 1 [] ⟨0,by omega,rfl,rfl,rfl⟩ ?_
   rintro n s o ⟨k,hk,rfl,rfl,rfl⟩
   unfold f6_rhs1
   have hj1:=j1L_len ht bs k
   refine dec_split (fun hlt => ?_) (fun hlt => ?_)
   · rw[hz] at hlt
     have hw:IntKind.wrap .i64 (((k+1:Nat):Int)+1)=((k+1+1:Nat):Int):=by rw[wrap_id _ (by omega)];rfl
     refine cond_split (fun hc => ?_) (fun hc=>cond_split (fun hc2 => ?_) (fun hc2 => ?_))
     · rw[f6_jeq2,hw]
       refine⟨ht,hb,by omega,by omega,hlt,xs.length-(k+1),by omega,_,_,rfl,k+1,by omega,rfl,rfl,?_⟩
       simp only[j1L,j1Step,hc,cond_true]
     · rw[f6_jeq2,hw]
       refine⟨by omega,by omega,ht,hb,by omega,xs.length-(k+1),by omega,_,_,rfl,k+1,by omega,rfl,rfl,?_⟩
       simp only[j1L,j1Step,hc,hc2,cond_true,cond_false]
     · rw[f6_jeq2,hw]
       refine⟨xs.length-(k+1),by omega,_,_,rfl,k+1,by omega,rfl,rfl,?_⟩
       simp only[j1L,j1Step,hc,hc2,cond_false]
   · rw[hz] at hlt
     have hke:k=xs.length-1:=by omega
     subst hke
     refine f6_rule3 _ xs bs ls (fun n s o=>∃j:Nat,j≤ls.length∧n=ls.length-j∧s=j∧o=j2L xs bs ls (j1L xs bs (xs.length-1)) j) ls.length 0 _ ⟨0,Nat.zero_le _,rfl,rfl,rfl⟩ ?_
     rintro n s o ⟨j,hj,rfl,rfl,rfl⟩
     unfold f6_rhs3
     have hj2:=j2L_len ht bs ls (j1L xs bs (xs.length-1)) j
     refine dec_split (fun hlt2 => ?_) (fun hlt2 => ?_)
     · have hlt':j<ls.length:=by omega
       have hw:=wrap_next j _ hlt' (by simp only[maxLen];omega)
       rw[Int.toNat_natCast,blk_eq]
       refine⟨by omega,hlt2,ht,cond_split (fun hc => ?_) (fun hc => ?_)⟩
       · rw[Bool.not_eq_true'] at hc
         refine⟨by omega,ls.length-(j+1),by omega,_,_,rfl,j+1,by omega,rfl,hw,?_⟩
         simp only[j2L,j2Step,hc,cond_true,cond_false]
       · rw[Bool.not_eq_false'] at hc
         refine⟨ht,hb,by omega,ls.length-(j+1),by omega,_,_,rfl,j+1,by omega,rfl,hw,?_⟩
         simp only[j2L,j2Step,hc,cond_true,cond_false]
     · have hje:j=ls.length:=by omega
       subst hje
       rw[blk_eq]
       exact⟨by have:=j1L_len ht bs (xs.length-1);omega,srt_len _,rfl,rfl⟩
 · cases h
end
end Go.Proofs.YtkpjcmiijlpcaaaGreat.W
