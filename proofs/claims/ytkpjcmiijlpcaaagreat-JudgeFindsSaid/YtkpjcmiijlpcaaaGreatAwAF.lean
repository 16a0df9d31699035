/- The functions of layer 4 (record), and what they come to. -/
import Derived.Test.YtkpjcmiijlpcaaaGreatEa
import Derived.KernelRfl
import Derived.Test.YtkpjcmiijlpcaaaGreatAwW
import Derived.Test.YtkpjcmiijlpcaaaGreatAwAA
import Derived.Test.YtkpjcmiijlpcaaaGreatAwY
set_option linter.unusedVariables false
set_option linter.unusedSimpArgs false
namespace Go.Proofs.YtkpjcmiijlpcaaaGreat.W
open Go Go.Proofs Go.Proofs.YtkpjcmiijlpcaaaGreat.Aw
noncomputable section
def consF0:Cons:=[]
def twosF0:Cons2:=[]
def pansF0:Cons3:=[]
def itersF0:Cons4:=[]
abbrev eF0:Env:=envOf4 consF0 twosF0 pansF0 itersF0
theorem allconsF0:∀c∈consF0,ConOk Tryz.prog c:=all_nil
theorem alltwosF0:∀c∈twosF0,ConOk2 Tryz.prog c:=all_nil
theorem allpansF0:∀c∈pansF0,ConOk3 Tryz.prog c:=all_nil
theorem allitersF0:∀c∈itersF0,ConOk4 Tryz.prog c:=all_nil
theorem envF0:EnvOk Tryz.prog eF0:=envOf4_ok _ _ _ _ allconsF0 alltwosF0 allpansF0 allitersF0
def con92:List AV→Option Tells
 | [.int .i64 a1,.int .i64 a2,.int .i64 a3]=>some ⟨[],AV.bool (bif !decide (a1<a2) then decide (a1>a3) else true),[]⟩
 | _=>none
theorem f92_run (R:AV→List Ob→Prop) (a1 a2 a3:Int):fnA tab eF0 Tryz.f92 (bodyOf Tryz.f92) [.int .i64 a1,.int .i64 a2,.int .i64 a3] R=(bif !decide (a1<a2) then R (AV.bool (decide (a1>a3))) [] else R (AV.bool true) []):=by kernel_rfl
theorem ok92:ConOk Tryz.prog (92,con92):=by
 intro args t h hp
 simp only[con92] at h
 split at h
 · cases h
   refine fn_ok envF0 tab_ok mixed Tryz.func92 (by kernel_rfl) (by kernel_rfl) ?_
   rw[f92_run]
   exact cond_split (fun h0=>⟨by simp only[h0,cond_true,cond_false],by first | rfl | simp only[h0,cond_true,cond_false]⟩) (fun h0=>⟨by simp only[h0,cond_true,cond_false],by first | rfl | simp only[h0,cond_true,cond_false]⟩)
 · cases h
def con58:List AV→Option Tells
 | [.int .i64 a1]=>some ⟨[],AV.bool (bif !a1==2 then a1==3 else true),[]⟩
 | _=>none
theorem f58_run (R:AV→List Ob→Prop) (a1:Int):fnA tab eF0 Tryz.f58 (bodyOf Tryz.f58) [.int .i64 a1] R=(bif !a1==2 then R (AV.bool (a1==3)) [] else R (AV.bool true) []):=by kernel_rfl
theorem ok58:ConOk Tryz.prog (58,con58):=by
 intro args t h hp
 simp only[con58] at h
 split at h
 · cases h
   refine fn_ok envF0 tab_ok mixed Tryz.func58 (by kernel_rfl) (by kernel_rfl) ?_
   rw[f58_run]
   exact cond_split (fun h0=>⟨by simp only[h0,cond_true,cond_false],by first | rfl | simp only[h0,cond_true,cond_false]⟩) (fun h0=>⟨by simp only[h0,cond_true,cond_false],by first | rfl | simp only[h0,cond_true,cond_false]⟩)
 · cases h
def consF1:Cons:=(92,con92)::(58,con58)::[]
def twosF1:Cons2:=[]
def pansF1:Cons3:=[]
def itersF1:Cons4:=[]
abbrev eF1:Env:=envOf4 consF1 twosF1 pansF1 itersF1
theorem allconsF1:∀c∈consF1,ConOk Tryz.prog c:=all_cons ok92 (all_cons ok58 all_nil)
theorem alltwosF1:∀c∈twosF1,ConOk2 Tryz.prog c:=all_nil
theorem allpansF1:∀c∈pansF1,ConOk3 Tryz.prog c:=all_nil
theorem allitersF1:∀c∈itersF1,ConOk4 Tryz.prog c:=all_nil
theorem envF1:EnvOk Tryz.prog eF1:=envOf4_ok _ _ _ _ allconsF1 alltwosF1 allpansF1 allitersF1
def con91:List AV→Option Tells
 | [.agg (.cons (.int .i64 a1) (.cons (.int .i64 a2) (.cons (.int .i64 a3) (.cons (.int .i64 a4) (.cons (.int .i64 a5) (.cons (.int .i64 a6) (.cons (.int .i64 a7) (.cons (.int .i64 a8) (.cons (.int .i64 a9) (.cons (.int .i64 a10) (.cons (.int .i64 a11) (.cons (.int .i64 a12) (.cons (.int .i64 a13) (.cons (.int .i64 a14) .nl))))))))))))))]=>some ⟨[],AV.bool (bif !decide (a2<1) then decide (a2>5) else true),[]⟩
 | _=>none
theorem f91_run (R:AV→List Ob→Prop) (a1 a2 a3 a4 a5 a6 a7 a8 a9 a10 a11 a12 a13 a14:Int):fnA tab eF1 Tryz.f91 (bodyOf Tryz.f91) [.agg (.cons (.int .i64 a1) (.cons (.int .i64 a2) (.cons (.int .i64 a3) (.cons (.int .i64 a4) (.cons (.int .i64 a5) (.cons (.int .i64 a6) (.cons (.int .i64 a7) (.cons (.int .i64 a8) (.cons (.int .i64 a9) (.cons (.int .i64 a10) (.cons (.int .i64 a11) (.cons (.int .i64 a12) (.cons (.int .i64 a13) (.cons (.int .i64 a14) .nl))))))))))))))] R=(R (AV.bool (bif !decide (a2<1) then decide (a2>5) else true)) []):=by kernel_rfl
theorem ok91:ConOk Tryz.prog (91,con91):=by
 intro args t h hp
 simp only[con91] at h
 split at h
 · cases h
   refine fn_ok envF1 tab_ok mixed Tryz.func91 (by kernel_rfl) (by kernel_rfl) ?_
   rw[f91_run]
   exact⟨rfl,rfl⟩
 · cases h
def con95:List AV→Option Tells
 | [.int .i64 a1]=>some ⟨[],AV.bool (bif !decide (a1 < -268435456) then decide (a1>268435456) else true),[]⟩
 | _=>none
theorem f95_run (R:AV→List Ob→Prop) (a1:Int):fnA tab eF1 Tryz.f95 (bodyOf Tryz.f95) [.int .i64 a1] R=(R (AV.bool (bif !decide (a1 < -268435456) then decide (a1>268435456) else true)) []):=by kernel_rfl
theorem ok95:ConOk Tryz.prog (95,con95):=by
 intro args t h hp
 simp only[con95] at h
 split at h
 · cases h
   refine fn_ok envF1 tab_ok mixed Tryz.func95 (by kernel_rfl) (by kernel_rfl) ?_
   rw[f95_run]
   exact⟨rfl,rfl⟩
 · cases h
def con96:List AV→Option Tells
 | [.agg (.cons (.int .i64 a1) (.cons (.int .i64 a2) (.cons (.int .i64 a3) (.cons (.int .i64 a4) (.cons (.int .i64 a5) (.cons (.int .i64 a6) (.cons (.int .i64 a7) (.cons (.int .i64 a8) (.cons (.int .i64 a9) (.cons (.int .i64 a10) (.cons (.int .i64 a11) (.cons (.int .i64 a12) (.cons (.int .i64 a13) (.cons (.int .i64 a14) .nl))))))))))))))]=>some ⟨[],AV.bool (bif a2==2 then bif !decide (a3<1) then decide (a3>2) else true else a3 != 0),[]⟩
 | _=>none
theorem f96_run (R:AV→List Ob→Prop) (a1 a2 a3 a4 a5 a6 a7 a8 a9 a10 a11 a12 a13 a14:Int):fnA tab eF1 Tryz.f96 (bodyOf Tryz.f96) [.agg (.cons (.int .i64 a1) (.cons (.int .i64 a2) (.cons (.int .i64 a3) (.cons (.int .i64 a4) (.cons (.int .i64 a5) (.cons (.int .i64 a6) (.cons (.int .i64 a7) (.cons (.int .i64 a8) (.cons (.int .i64 a9) (.cons (.int .i64 a10) (.cons (.int .i64 a11) (.cons (.int .i64 a12) (.cons (.int .i64 a13) (.cons (.int .i64 a14) .nl))))))))))))))] R=(bif a2==2 then R (AV.bool (bif !decide (a3<1) then decide (a3>2) else true)) [] else R (AV.bool (a3 != 0)) []):=by kernel_rfl
theorem ok96:ConOk Tryz.prog (96,con96):=by
 intro args t h hp
 simp only[con96] at h
 split at h
 · cases h
   refine fn_ok envF1 tab_ok mixed Tryz.func96 (by kernel_rfl) (by kernel_rfl) ?_
   rw[f96_run]
   exact cond_split (fun h0=>⟨by simp only[h0,cond_true,cond_false],by first | rfl | simp only[h0,cond_true,cond_false]⟩) (fun h0=>⟨by simp only[h0,cond_true,cond_false],by first | rfl | simp only[h0,cond_true,cond_false]⟩)
 · cases h
def con97:List AV→Option Tells
 | [.agg (.cons (.int .i64 a1) (.cons (.int .i64 a2) (.cons (.int .i64 a3) (.cons (.int .i64 a4) (.cons (.int .i64 a5) (.cons (.int .i64 a6) (.cons (.int .i64 a7) (.cons (.int .i64 a8) (.cons (.int .i64 a9) (.cons (.int .i64 a10) (.cons (.int .i64 a11) (.cons (.int .i64 a12) (.cons (.int .i64 a13) (.cons (.int .i64 a14) .nl))))))))))))))]=>some ⟨[],AV.bool (bif !bif !decide (a4<0) then decide (a4>3) else true then bif a2==5 then a4 != 0 else false else true),[]⟩
 | _=>none
theorem f97_run (R:AV→List Ob→Prop) (a1 a2 a3 a4 a5 a6 a7 a8 a9 a10 a11 a12 a13 a14:Int):fnA tab eF1 Tryz.f97 (bodyOf Tryz.f97) [.agg (.cons (.int .i64 a1) (.cons (.int .i64 a2) (.cons (.int .i64 a3) (.cons (.int .i64 a4) (.cons (.int .i64 a5) (.cons (.int .i64 a6) (.cons (.int .i64 a7) (.cons (.int .i64 a8) (.cons (.int .i64 a9) (.cons (.int .i64 a10) (.cons (.int .i64 a11) (.cons (.int .i64 a12) (.cons (.int .i64 a13) (.cons (.int .i64 a14) .nl))))))))))))))] R=(bif !bif !decide (a4<0) then decide (a4>3) else true then bif a2==5 then R (AV.bool (a4 != 0)) [] else R (AV.bool false) [] else R (AV.bool true) []):=by kernel_rfl
theorem ok97:ConOk Tryz.prog (97,con97):=by
 intro args t h hp
 simp only[con97] at h
 split at h
 · cases h
   refine fn_ok envF1 tab_ok mixed Tryz.func97 (by kernel_rfl) (by kernel_rfl) ?_
   rw[f97_run]
   exact cond_split (fun h0=>cond_split (fun h1=>⟨by simp only[h0,h1,cond_true,cond_false],by first | rfl | simp only[h0,h1,cond_true,cond_false]⟩) (fun h1=>⟨by simp only[h0,h1,cond_true,cond_false],by first | rfl | simp only[h0,h1,cond_true,cond_false]⟩)) (fun h0=>⟨by simp only[h0,cond_true,cond_false],by first | rfl | simp only[h0,cond_true,cond_false]⟩)
 · cases h
def con98:List AV→Option Tells
 | [.agg (.cons (.int .i64 a1) (.cons (.int .i64 a2) (.cons (.int .i64 a3) (.cons (.int .i64 a4) (.cons (.int .i64 a5) (.cons (.int .i64 a6) (.cons (.int .i64 a7) (.cons (.int .i64 a8) (.cons (.int .i64 a9) (.cons (.int .i64 a10) (.cons (.int .i64 a11) (.cons (.int .i64 a12) (.cons (.int .i64 a13) (.cons (.int .i64 a14) .nl))))))))))))))]=>some ⟨[],AV.bool (bif a2==2 then bif !decide (a5<0) then decide (a6 < -1) else true else bif a2==5 then bif !decide (a5<0) then decide (a6<0) else true else bif !decide (a5 < -1) then decide (a6 < -1) else true),[]⟩
 | _=>none
theorem f98_run (R:AV→List Ob→Prop) (a1 a2 a3 a4 a5 a6 a7 a8 a9 a10 a11 a12 a13 a14:Int):fnA tab eF1 Tryz.f98 (bodyOf Tryz.f98) [.agg (.cons (.int .i64 a1) (.cons (.int .i64 a2) (.cons (.int .i64 a3) (.cons (.int .i64 a4) (.cons (.int .i64 a5) (.cons (.int .i64 a6) (.cons (.int .i64 a7) (.cons (.int .i64 a8) (.cons (.int .i64 a9) (.cons (.int .i64 a10) (.cons (.int .i64 a11) (.cons (.int .i64 a12) (.cons (.int .i64 a13) (.cons (.int .i64 a14) .nl))))))))))))))] R=(bif a2==2 then bif !decide (a5<0) then R (AV.bool (decide (a6 < -1))) [] else R (AV.bool true) [] else bif a2==5 then bif !decide (a5<0) then R (AV.bool (decide (a6<0))) [] else R (AV.bool true) [] else bif !decide (a5 < -1) then R (AV.bool (decide (a6 < -1))) [] else R (AV.bool true) []):=by kernel_rfl
theorem ok98:ConOk Tryz.prog (98,con98):=by
 intro args t h hp
 simp only[con98] at h
 split at h
 · cases h
   refine fn_ok envF1 tab_ok mixed Tryz.func98 (by kernel_rfl) (by kernel_rfl) ?_
   rw[f98_run]
   exact cond_split (fun h0=>cond_split (fun h1=>⟨by simp only[h0,h1,cond_true,cond_false],by first | rfl | simp only[h0,h1,cond_true,cond_false]⟩) (fun h1=>⟨by simp only[h0,h1,cond_true,cond_false],by first | rfl | simp only[h0,h1,cond_true,cond_false]⟩)) (fun h0=>cond_split (fun h1=>cond_split (fun h2=>⟨by simp only[h0,h1,h2,cond_true,cond_false],by first | rfl | simp only[h0,h1,h2,cond_true,cond_false]⟩) (fun h2=>⟨by simp only[h0,h1,h2,cond_true,cond_false],by first | rfl | simp only[h0,h1,h2,cond_true,cond_false]⟩)) (fun h1=>cond_split (fun h2=>⟨by simp only[h0,h1,h2,cond_true,cond_false],by first | rfl | simp only[h0,h1,h2,cond_true,cond_false]⟩) (fun h2=>⟨by simp only[h0,h1,h2,cond_true,cond_false],by first | rfl | simp only[h0,h1,h2,cond_true,cond_false]⟩)))
 · cases h
def con99:List AV→Option Tells
 | [.agg (.cons (.int .i64 a1) (.cons (.int .i64 a2) (.cons (.int .i64 a3) (.cons (.int .i64 a4) (.cons (.int .i64 a5) (.cons (.int .i64 a6) (.cons (.int .i64 a7) (.cons (.int .i64 a8) (.cons (.int .i64 a9) (.cons (.int .i64 a10) (.cons (.int .i64 a11) (.cons (.int .i64 a12) (.cons (.int .i64 a13) (.cons (.int .i64 a14) .nl))))))))))))))]=>some ⟨[],AV.bool (bif a2==5 then !(a7==0&&(a8==0&&(a9==0&&(a10==0&&true)))) else false),[]⟩
 | _=>none
theorem f99_run (R:AV→List Ob→Prop) (a1 a2 a3 a4 a5 a6 a7 a8 a9 a10 a11 a12 a13 a14:Int):fnA tab eF1 Tryz.f99 (bodyOf Tryz.f99) [.agg (.cons (.int .i64 a1) (.cons (.int .i64 a2) (.cons (.int .i64 a3) (.cons (.int .i64 a4) (.cons (.int .i64 a5) (.cons (.int .i64 a6) (.cons (.int .i64 a7) (.cons (.int .i64 a8) (.cons (.int .i64 a9) (.cons (.int .i64 a10) (.cons (.int .i64 a11) (.cons (.int .i64 a12) (.cons (.int .i64 a13) (.cons (.int .i64 a14) .nl))))))))))))))] R=(bif a2==5 then R (AV.bool !(a7==0&&(a8==0&&(a9==0&&(a10==0&&true))))) [] else R (AV.bool false) []):=by kernel_rfl
theorem ok99:ConOk Tryz.prog (99,con99):=by
 intro args t h hp
 simp only[con99] at h
 split at h
 · cases h
   refine fn_ok envF1 tab_ok mixed Tryz.func99 (by kernel_rfl) (by kernel_rfl) ?_
   rw[f99_run]
   exact cond_split (fun h0=>⟨by simp only[h0,cond_true,cond_false],by first | rfl | simp only[h0,cond_true,cond_false]⟩) (fun h0=>⟨by simp only[h0,cond_true,cond_false],by first | rfl | simp only[h0,cond_true,cond_false]⟩)
 · cases h
def con102:List AV→Option Tells
 | [.agg (.cons (.int .i64 a1) (.cons (.int .i64 a2) (.cons (.int .i64 a3) (.cons (.int .i64 a4) (.cons (.int .i64 a5) (.cons (.int .i64 a6) (.cons (.int .i64 a7) (.cons (.int .i64 a8) (.cons (.int .i64 a9) (.cons (.int .i64 a10) (.cons (.int .i64 a11) (.cons (.int .i64 a12) (.cons (.int .i64 a13) (.cons (.int .i64 a14) .nl))))))))))))))]=>some ⟨[],AV.bool (bif !decide (a1<0) then decide (a1>256) else true),[]⟩
 | _=>none
theorem f102_run (R:AV→List Ob→Prop) (a1 a2 a3 a4 a5 a6 a7 a8 a9 a10 a11 a12 a13 a14:Int):fnA tab eF1 Tryz.f102 (bodyOf Tryz.f102) [.agg (.cons (.int .i64 a1) (.cons (.int .i64 a2) (.cons (.int .i64 a3) (.cons (.int .i64 a4) (.cons (.int .i64 a5) (.cons (.int .i64 a6) (.cons (.int .i64 a7) (.cons (.int .i64 a8) (.cons (.int .i64 a9) (.cons (.int .i64 a10) (.cons (.int .i64 a11) (.cons (.int .i64 a12) (.cons (.int .i64 a13) (.cons (.int .i64 a14) .nl))))))))))))))] R=(R (AV.bool (bif !decide (a1<0) then decide (a1>256) else true)) []):=by kernel_rfl
theorem ok102:ConOk Tryz.prog (102,con102):=by
 intro args t h hp
 simp only[con102] at h
 split at h
 · cases h
   refine fn_ok envF1 tab_ok mixed Tryz.func102 (by kernel_rfl) (by kernel_rfl) ?_
   rw[f102_run]
   exact⟨rfl,rfl⟩
 · cases h
def con57:List AV→Option Tells
 | [.int .i64 a1,.int .i64 a2]=>some ⟨[],AV.bool (bif !a1==1 then bif a2==5 then a1==4 else bif a2==2 then bif !bif !a1==2 then a1==3 else true then a1==4 else true else bif a2==1 then bif !a1==2 then a1==3 else true else bif a2==3 then bif !a1==2 then a1==3 else true else bif a2==4 then bif !a1==2 then a1==3 else true else false else bif a2==5 then a1==4 else bif a2==2 then true else bif a2==1 then true else bif a2==3 then true else bif a2==4 then true else false),[]⟩
 | _=>none
theorem f57_run (R:AV→List Ob→Prop) (a1 a2:Int):fnA tab eF1 Tryz.f57 (bodyOf Tryz.f57) [.int .i64 a1,.int .i64 a2] R=(bif !a1==1 then bif a2==5 then R (AV.bool (a1==4)) [] else bif a2==2 then bif !bif !a1==2 then a1==3 else true then R (AV.bool (a1==4)) [] else R (AV.bool true) [] else bif a2==1 then R (AV.bool (bif !a1==2 then a1==3 else true)) [] else bif a2==3 then R (AV.bool (bif !a1==2 then a1==3 else true)) [] else bif a2==4 then R (AV.bool (bif !a1==2 then a1==3 else true)) [] else R (AV.bool false) [] else bif a2==5 then R (AV.bool (a1==4)) [] else bif a2==2 then R (AV.bool true) [] else bif a2==1 then R (AV.bool true) [] else bif a2==3 then R (AV.bool true) [] else bif a2==4 then R (AV.bool true) [] else R (AV.bool false) []):=by kernel_rfl
theorem ok57:ConOk Tryz.prog (57,con57):=by
 intro args t h hp
 simp only[con57] at h
 split at h
 · cases h
   refine fn_ok envF1 tab_ok mixed Tryz.func57 (by kernel_rfl) (by kernel_rfl) ?_
   rw[f57_run]
   exact cond_split (fun h0=>cond_split (fun h1=>⟨by simp only[h0,h1,cond_true,cond_false],by first | rfl | simp only[h0,h1,cond_true,cond_false]⟩) (fun h1=>cond_split (fun h2=>cond_split (fun h3=>⟨by simp only[h0,h1,h2,h3,cond_true,cond_false],by first | rfl | simp only[h0,h1,h2,h3,cond_true,cond_false]⟩) (fun h3=>⟨by simp only[h0,h1,h2,h3,cond_true,cond_false],by first | rfl | simp only[h0,h1,h2,h3,cond_true,cond_false]⟩)) (fun h2=>cond_split (fun h3=>⟨by simp only[h0,h1,h2,h3,cond_true,cond_false],by first | rfl | simp only[h0,h1,h2,h3,cond_true,cond_false]⟩) (fun h3=>cond_split (fun h4=>⟨by simp only[h0,h1,h2,h3,h4,cond_true,cond_false],by first | rfl | simp only[h0,h1,h2,h3,h4,cond_true,cond_false]⟩) (fun h4=>cond_split (fun h5=>⟨by simp only[h0,h1,h2,h3,h4,h5,cond_true,cond_false],by first | rfl | simp only[h0,h1,h2,h3,h4,h5,cond_true,cond_false]⟩) (fun h5=>⟨by simp only[h0,h1,h2,h3,h4,h5,cond_true,cond_false],by first | rfl | simp only[h0,h1,h2,h3,h4,h5,cond_true,cond_false]⟩)))))) (fun h0=>cond_split (fun h1=>⟨by simp only[h0,h1,cond_true,cond_false],by first | rfl | simp only[h0,h1,cond_true,cond_false]⟩) (fun h1=>cond_split (fun h2=>⟨by simp only[h0,h1,h2,cond_true,cond_false],by first | rfl | simp only[h0,h1,h2,cond_true,cond_false]⟩) (fun h2=>cond_split (fun h3=>⟨by simp only[h0,h1,h2,h3,cond_true,cond_false],by first | rfl | simp only[h0,h1,h2,h3,cond_true,cond_false]⟩) (fun h3=>cond_split (fun h4=>⟨by simp only[h0,h1,h2,h3,h4,cond_true,cond_false],by first | rfl | simp only[h0,h1,h2,h3,h4,cond_true,cond_false]⟩) (fun h4=>cond_split (fun h5=>⟨by simp only[h0,h1,h2,h3,h4,h5,cond_true,cond_false],by first | rfl | simp only[h0,h1,h2,h3,h4,h5,cond_true,cond_false]⟩) (fun h5=>⟨by simp only[h0,h1,h2,h3,h4,h5,cond_true,cond_false],by first | rfl | simp only[h0,h1,h2,h3,h4,h5,cond_true,cond_false]⟩))))))
 · cases h
theorem ex_blk (α:Type):∃f:α→α,∀x,f x=x:=⟨id,fun _=>rfl⟩
def blk {α:Type}:α→α:=Classical.choose (ex_blk α)
theorem blk_eq {α:Type} (x:α):blk x=x:=Classical.choose_spec (ex_blk α) x
def bigB (n:Int):Bool:=bif !decide (n < -268435456) then decide (n>268435456) else true
def idxFrom (p:Int→Bool):List Int→Int→Int
 | [],_ => -1
 | x::r,i=>bif p x then i else idxFrom p r (i+1)
def minF:List Int→Int
 | []=>0
 | x::r=>r.foldl min x
theorem idx_step (p:Int→Bool) (xs:List Int) (k:Nat) (h:k<xs.length):idxFrom p (xs.drop k) k=bif p (xs.getD (k:Int).toNat 0) then (k:Int) else idxFrom p (xs.drop (k+1)) ((k+1:Nat):Int):=by
 rw[List.drop_eq_getElem_cons h,getD_nat xs 0 k h]
 simp only[idxFrom]
 rw[show ((k:Int)+1)=((k+1:Nat):Int) by omega]
theorem min_if (m x:Int):(if x<m then x else m)=min m x:=by split<;>omega
theorem min_step (xs:List Int) (k:Nat) (h0:0<k) (h:k<xs.length):minF (xs.take (k+1))=min (minF (xs.take k)) (xs.getD (k:Int).toNat 0):=by
 rw[getD_nat xs 0 k h,take_next xs k h]
 cases xs with
 | nil=>simp at h
 | cons x r=>
  obtain⟨j,rfl⟩:∃j,k=j+1:=⟨k-1,by omega⟩
  simp only[List.take_succ_cons,List.cons_append,minF,List.foldl_append,List.foldl_cons,List.foldl_nil]
def consF2:Cons:=(91,con91)::(95,con95)::(96,con96)::(97,con97)::(98,con98)::(99,con99)::(102,con102)::(57,con57)::consF1
def twosF2:Cons2:=twosF1
def pansF2:Cons3:=pansF1
def itersF2:Cons4:=itersF1
abbrev eF2:Env:=envOf4 consF2 twosF2 pansF2 itersF2
theorem allconsF2:∀c∈consF2,ConOk Tryz.prog c:=all_cons ok91 (all_cons ok95 (all_cons ok96 (all_cons ok97 (all_cons ok98 (all_cons ok99 (all_cons ok102 (all_cons ok57 allconsF1)))))))
theorem alltwosF2:∀c∈twosF2,ConOk2 Tryz.prog c:=alltwosF1
theorem allpansF2:∀c∈pansF2,ConOk3 Tryz.prog c:=allpansF1
theorem allitersF2:∀c∈itersF2,ConOk4 Tryz.prog c:=allitersF1
theorem envF2:EnvOk Tryz.prog eF2:=envOf4_ok _ _ _ _ allconsF2 alltwosF2 allpansF2 allitersF2
def con80:List AV→Option Tells
 | [.list 3 (.int .i64) xs,.fn (.func 95) .nl .nl]=>some ⟨[xs.length≤4096],.int .i64 (idxFrom bigB xs 0),[]⟩
 | _=>none
def f80_live1:List Nat:=[8,7,8,1,0,8,4]
def f80_head1 (xs:List KI.den) (s8:Int):St:={slots:=[AV.list 3 KI xs,AV.fn (Fn.func 95) AV.nl AV.nl,AV.undef,AV.undef,AV.int .i64 0,AV.undef,AV.undef,AV.int .i64 (↑xs.length:Int),AV.int .i64 s8]++List.replicate 10 AV.undef,obs:=[]}
def f80_q1 (R:AV→List Ob→Prop):Ex→St→Prop:=blockA 0 (seqQ tab eF2 (subC [1,1] (bodyOf Tryz.f80)) [4] (endA tab Tryz.f80 R))
def f80_loop1 (R:AV→List Ob→Prop) (xs:List KI.den) (s8:Int):Prop:=loopT f80_live1 (codeA tab eF2 (subC [1,0,1,0,0] (bodyOf Tryz.f80)) f80_live1) (f80_head1 xs s8) (f80_q1 R)
def f80_rhs1 (R:AV→List Ob→Prop) (xs:List KI.den) (J:St→Prop) (s8:Int):Prop:=bif decide (s8<(↑xs.length:Int)) then 0≤s8∧s8<(↑xs.length:Int)∧bif bif !decide (xs.getD s8.toNat 0 < -268435456) then decide (xs.getD s8.toNat 0>268435456) else true then R (AV.int .i64 s8) [] else J (f80_head1 xs (IntKind.i64.wrap (s8+1))) else R (AV.int .i64 (-1)) []
theorem f80_eq1 (R:AV→List Ob→Prop) (xs:List KI.den) (J:St→Prop) (s8:Int):codeA tab eF2 (subC [1,0,1,0,0] (bodyOf Tryz.f80)) f80_live1 (f80_head1 xs s8) (thenA (fun s=>J (St.tidy f80_live1 s)) (f80_q1 R))=f80_rhs1 R xs J s8:=by kernel_rfl
set_option maxHeartbeats 2000000 in
theorem f80_rule1 (R:AV→List Ob→Prop) (xs:List KI.den) (I:Nat→(Int)→Prop) (n:Nat) (s8:Int) (h0:I n s8) (h:∀n,∀(s8:Int),I n s8→f80_rhs1 R xs (fun t=>∃m,m<n∧∃(s8:Int),t=f80_head1 xs s8∧I m s8) s8):f80_loop1 R xs s8:=
 loop_intro (fun n t=>∃(s8:Int),t=f80_head1 xs s8∧I n s8) n ⟨s8,rfl,h0⟩ (fun n t ht=>by obtain⟨s8,rfl,hI⟩:=ht;exact Eq.mpr (f80_eq1 R xs (fun t=>∃m,m<n∧∃(s8:Int),t=f80_head1 xs s8∧I m s8) s8) (h n s8 hI))
theorem f80_run (R:AV→List Ob→Prop) (xs:List (Ty.int .i64).den):fnA tab eF2 Tryz.f80 (bodyOf Tryz.f80) [.list 3 (.int .i64) xs,.fn (.func 95) .nl .nl] R=(f80_loop1 R xs 0):=by kernel_rfl
theorem ok80:ConOk Tryz.prog (80,con80):=by
 intro args t h hp
 change con80 args=some t at h
 unfold con80 at h
 split at h
 · rename_i xs
   change List (Ty.int .i64).den at xs
   cases h
   refine fn_ok envF2 tab_ok mixed Tryz.func80 (by kernel_rfl) (by kernel_rfl) ?_
   rw[f80_run]
   try dsimp only
   have hx:=hp (xs.length≤4096) (by simp)
   refine f80_rule1 _ xs (fun n i=>∃k:Nat,k≤xs.length∧n=xs.length-k∧i=k∧idxFrom bigB xs 0=idxFrom bigB (xs.drop k) k) xs.length 0 ⟨0,by omega,by simp,rfl,rfl⟩ ?_
   rintro n i ⟨k,hk,rfl,rfl,hi⟩
   unfold f80_rhs1
   refine dec_split (fun hlt=>⟨by omega,hlt,?_⟩) (fun hlt => ?_)
   · have hlt':k<xs.length:=by omega
     rw[idx_step bigB xs k hlt'] at hi
     refine cond_split (fun hc => ?_) (fun hc => ?_)
     · rw[show bigB _=true from hc] at hi
       rw[hi]
       exact⟨rfl,rfl⟩
     · rw[show bigB _=false from hc] at hi
       exact⟨xs.length-(k+1),by omega,_,rfl,k+1,by omega,rfl,wrap_next k _ hlt' (by simp only[maxLen];omega),hi⟩
   · rw[hi,List.drop_of_length_le (by omega)]
     exact⟨rfl,rfl⟩
 · cases h
def con101:List AV→Option Tells
 | [.list 3 (.int .i64) xs]=>some ⟨[0<xs.length,xs.length≤4096],.int .i64 (blk (minF xs)),[]⟩
 | _=>none
def f101_live1:List Nat:=[4,0,3,0,4,4,3,2]
def f101_head1 (xs:List KI.den) (s3:Int) (s4:Int):St:={slots:=[AV.list 3 KI xs,AV.undef,AV.int .i64 0,AV.int .i64 s3,AV.int .i64 s4]++List.replicate 20 AV.undef,obs:=[]}
def f101_q1 (R:AV→List Ob→Prop):Ex→St→Prop:=blockA 0 (seqQ tab eF2 (subC [1,1,1,1] (bodyOf Tryz.f101)) [2] (endA tab Tryz.f101 R))
def f101_loop1 (R:AV→List Ob→Prop) (xs:List KI.den) (s3:Int) (s4:Int):Prop:=loopT f101_live1 (codeA tab eF2 (subC [1,1,1,0,1,0,0] (bodyOf Tryz.f101)) f101_live1) (f101_head1 xs s3 s4) (f101_q1 R)
def f101_rhs1 (R:AV→List Ob→Prop) (xs:List KI.den) (J:St→Prop) (s3:Int) (s4:Int):Prop:=bif decide (s4<(↑xs.length:Int)) then 0≤s4∧s4<(↑xs.length:Int)∧J (f101_head1 xs (if xs.getD s4.toNat 0<s3 then xs.getD s4.toNat 0 else s3) (IntKind.i64.wrap (s4+1))) else R (AV.int .i64 s3) []
theorem f101_eq1 (R:AV→List Ob→Prop) (xs:List KI.den) (J:St→Prop) (s3:Int) (s4:Int):codeA tab eF2 (subC [1,1,1,0,1,0,0] (bodyOf Tryz.f101)) f101_live1 (f101_head1 xs s3 s4) (thenA (fun s=>J (St.tidy f101_live1 s)) (f101_q1 R))=f101_rhs1 R xs J s3 s4:=by kernel_rfl
set_option maxHeartbeats 2000000 in
theorem f101_rule1 (R:AV→List Ob→Prop) (xs:List KI.den) (I:Nat→(Int)→(Int)→Prop) (n:Nat) (s3:Int) (s4:Int) (h0:I n s3 s4) (h:∀n,∀(s3:Int) (s4:Int),I n s3 s4→f101_rhs1 R xs (fun t=>∃m,m<n∧∃(s3:Int) (s4:Int),t=f101_head1 xs s3 s4∧I m s3 s4) s3 s4):f101_loop1 R xs s3 s4:=
 loop_intro (fun n t=>∃(s3:Int) (s4:Int),t=f101_head1 xs s3 s4∧I n s3 s4) n ⟨s3,s4,rfl,h0⟩ (fun n t ht=>by obtain⟨s3,s4,rfl,hI⟩:=ht;exact Eq.mpr (f101_eq1 R xs (fun t=>∃m,m<n∧∃(s3:Int) (s4:Int),t=f101_head1 xs s3 s4∧I m s3 s4) s3 s4) (h n s3 s4 hI))
theorem f101_run (R:AV→List Ob→Prop) (xs:List (Ty.int .i64).den):fnA tab eF2 Tryz.f101 (bodyOf Tryz.f101) [.list 3 (.int .i64) xs] R=(bif decide ((↑xs.length:Int)<1) then False else (0:Int)≤0∧0<(↑xs.length:Int)∧f101_loop1 R xs (xs.getD 0 0) 1):=by kernel_rfl
theorem ok101:ConOk Tryz.prog (101,con101):=by
 intro args t h hp
 change con101 args=some t at h
 unfold con101 at h
 split at h
 · rename_i xs
   change List (Ty.int .i64).den at xs
   cases h
   refine fn_ok envF2 tab_ok mixed Tryz.func101 (by kernel_rfl) (by kernel_rfl) ?_
   rw[f101_run]
   try dsimp only
   have hx:=hp (xs.length≤4096) (by simp)
   have h0:=hp (0<xs.length) (by simp)
   refine dec_no (by omega) ⟨Int.le_refl 0,by omega,?_⟩
   rw[blk_eq]
   refine f101_rule1 _ xs (fun n m i=>∃k:Nat,0<k∧k≤xs.length∧n=xs.length-k∧i=k∧m=minF (xs.take k)) (xs.length-1) _ _ ⟨1,by omega,by omega,rfl,rfl,?_⟩ ?_
   · cases xs with
     | nil=>simp at h0
     | cons x r=>rfl
   rintro n m i ⟨k,hk0,hk,rfl,rfl,rfl⟩
   unfold f101_rhs1
   refine dec_split (fun hlt=>⟨by omega,hlt,?_⟩) (fun hlt => ?_)
   · have hlt':k<xs.length:=by omega
     refine⟨xs.length-(k+1),by omega,_,_,rfl,k+1,by omega,by omega,rfl,wrap_next k _ hlt' (by simp only[maxLen];omega),?_⟩
     rw[min_step xs k hk0 hlt']
     generalize xs.getD (k:Int).toNat 0=x
     exact min_if _ _
   · rw[take_all xs k (by omega)]
     exact⟨rfl,rfl⟩
 · cases h
def consF3:Cons:=(80,con80)::(101,con101)::consF2
def twosF3:Cons2:=twosF2
def pansF3:Cons3:=pansF2
def itersF3:Cons4:=itersF2
abbrev eF3:Env:=envOf4 consF3 twosF3 pansF3 itersF3
theorem allconsF3:∀c∈consF3,ConOk Tryz.prog c:=all_cons ok80 (all_cons ok101 allconsF2)
theorem alltwosF3:∀c∈twosF3,ConOk2 Tryz.prog c:=alltwosF2
theorem allpansF3:∀c∈pansF3,ConOk3 Tryz.prog c:=allpansF2
theorem allitersF3:∀c∈itersF3,ConOk4 Tryz.prog c:=allitersF2
theorem envF3:EnvOk Tryz.prog eF3:=envOf4_ok _ _ _ _ allconsF3 alltwosF3 allpansF3 allitersF3
def con94:List AV→Option Tells
 | [.list 3 (.int .i64) xs,.fn (.func 95) .nl .nl]=>some ⟨[xs.length≤4096],.bool (blk (decide (idxFrom bigB xs 0≥0))),[]⟩
 | _=>none
theorem f94_run (R:AV→List Ob→Prop) (xs:List (Ty.int .i64).den):fnA tab eF3 Tryz.f94 (bodyOf Tryz.f94) [.list 3 (.int .i64) xs,.fn (.func 95) .nl .nl] R=(xs.length≤4096∧R (AV.bool (decide (idxFrom bigB xs 0≥0))) []):=by kernel_rfl
theorem ok94:ConOk Tryz.prog (94,con94):=by
 intro args t h hp
 change con94 args=some t at h
 unfold con94 at h
 split at h
 · rename_i xs
   change List (Ty.int .i64).den at xs
   cases h
   refine fn_ok envF3 tab_ok mixed Tryz.func94 (by kernel_rfl) (by kernel_rfl) ?_
   rw[f94_run]
   try dsimp only
   have hx:=hp (xs.length≤4096) (by simp)
   rw[blk_eq]
   exact⟨hx,rfl,rfl⟩
 · cases h
def consF4:Cons:=(94,con94)::consF3
def twosF4:Cons2:=twosF3
def pansF4:Cons3:=pansF3
def itersF4:Cons4:=itersF3
abbrev eF4:Env:=envOf4 consF4 twosF4 pansF4 itersF4
theorem allconsF4:∀c∈consF4,ConOk Tryz.prog c:=all_cons ok94 allconsF3
theorem alltwosF4:∀c∈twosF4,ConOk2 Tryz.prog c:=alltwosF3
theorem allpansF4:∀c∈pansF4,ConOk3 Tryz.prog c:=allpansF3
theorem allitersF4:∀c∈itersF4,ConOk4 Tryz.prog c:=allitersF3
theorem envF4:EnvOk Tryz.prog eF4:=envOf4_ok _ _ _ _ allconsF4 alltwosF4 allpansF4 allitersF4
def con93:List AV→Option Tells
 | [.agg (.cons (.int .i64 a1) (.cons (.int .i64 a2) (.cons (.int .i64 a3) (.cons (.int .i64 a4) (.cons (.int .i64 a5) (.cons (.int .i64 a6) (.cons (.int .i64 a7) (.cons (.int .i64 a8) (.cons (.int .i64 a9) (.cons (.int .i64 a10) (.cons (.int .i64 a11) (.cons (.int .i64 a12) (.cons (.int .i64 a13) (.cons (.int .i64 a14) .nl))))))))))))))]=>some ⟨[],AV.bool (blk (decide (idxFrom bigB ([a5,a6]++([a7,a8,a9,a10]++[a11,a12,a13,a14])) 0≥0))),[]⟩
 | _=>none
theorem f93_run (R:AV→List Ob→Prop) (a1 a2 a3 a4 a5 a6 a7 a8 a9 a10 a11 a12 a13 a14:Int):fnA tab eF4 Tryz.f93 (bodyOf Tryz.f93) [.agg (.cons (.int .i64 a1) (.cons (.int .i64 a2) (.cons (.int .i64 a3) (.cons (.int .i64 a4) (.cons (.int .i64 a5) (.cons (.int .i64 a6) (.cons (.int .i64 a7) (.cons (.int .i64 a8) (.cons (.int .i64 a9) (.cons (.int .i64 a10) (.cons (.int .i64 a11) (.cons (.int .i64 a12) (.cons (.int .i64 a13) (.cons (.int .i64 a14) .nl))))))))))))))] R=((0:Int)≤0∧(0:Int)≤4∧(4:Int)≤4∧(4:Int)≤4∧(0:Int)≤0∧(0:Int)≤4∧(4:Int)≤4∧(4:Int)≤4∧(4+4)*8≤140737488355328∧Nat.le 1 4∧Nat.le 1 4∧(2+8)*8≤140737488355328∧Nat.le 10 4096∧R (AV.bool (blk (decide (idxFrom bigB ([a5,a6]++([a7,a8,a9,a10]++[a11,a12,a13,a14])) 0≥0)))) []):=by kernel_rfl
theorem ok93:ConOk Tryz.prog (93,con93):=by
 intro args t h hp
 simp only[con93] at h
 split at h
 · cases h
   refine fn_ok envF4 tab_ok mixed Tryz.func93 (by kernel_rfl) (by kernel_rfl) ?_
   rw[f93_run]
   exact⟨of_decide_eq_true rfl,⟨of_decide_eq_true rfl,⟨of_decide_eq_true rfl,⟨of_decide_eq_true rfl,⟨of_decide_eq_true rfl,⟨of_decide_eq_true rfl,⟨of_decide_eq_true rfl,⟨of_decide_eq_true rfl,⟨of_decide_eq_true rfl,⟨Nat.le_of_ble_eq_true rfl,⟨Nat.le_of_ble_eq_true rfl,⟨of_decide_eq_true rfl,⟨Nat.le_of_ble_eq_true rfl,⟨rfl,rfl⟩⟩⟩⟩⟩⟩⟩⟩⟩⟩⟩⟩⟩⟩
 · cases h
def con100:List AV→Option Tells
 | [.agg (.cons (.int .i64 a1) (.cons (.int .i64 a2) (.cons (.int .i64 a3) (.cons (.int .i64 a4) (.cons (.int .i64 a5) (.cons (.int .i64 a6) (.cons (.int .i64 a7) (.cons (.int .i64 a8) (.cons (.int .i64 a9) (.cons (.int .i64 a10) (.cons (.int .i64 a11) (.cons (.int .i64 a12) (.cons (.int .i64 a13) (.cons (.int .i64 a14) .nl))))))))))))))]=>some ⟨[],AV.bool (bif !decide (blk (minF [a11,a12,a13,a14])<0) then bif a2==5 then !(a11==0&&(a12==0&&(a13==0&&(a14==0&&true)))) else false else true),[]⟩
 | _=>none
theorem f100_run (R:AV→List Ob→Prop) (a1 a2 a3 a4 a5 a6 a7 a8 a9 a10 a11 a12 a13 a14:Int):fnA tab eF4 Tryz.f100 (bodyOf Tryz.f100) [.agg (.cons (.int .i64 a1) (.cons (.int .i64 a2) (.cons (.int .i64 a3) (.cons (.int .i64 a4) (.cons (.int .i64 a5) (.cons (.int .i64 a6) (.cons (.int .i64 a7) (.cons (.int .i64 a8) (.cons (.int .i64 a9) (.cons (.int .i64 a10) (.cons (.int .i64 a11) (.cons (.int .i64 a12) (.cons (.int .i64 a13) (.cons (.int .i64 a14) .nl))))))))))))))] R=((0:Int)≤0∧(0:Int)≤4∧(4:Int)≤4∧(4:Int)≤4∧Nat.le 1 4∧Nat.le 4 4096∧bif !decide (blk (minF [a11,a12,a13,a14])<0) then bif a2==5 then R (AV.bool !(a11==0&&(a12==0&&(a13==0&&(a14==0&&true))))) [] else R (AV.bool false) [] else R (AV.bool true) []):=by kernel_rfl
theorem ok100:ConOk Tryz.prog (100,con100):=by
 intro args t h hp
 simp only[con100] at h
 split at h
 · cases h
   refine fn_ok envF4 tab_ok mixed Tryz.func100 (by kernel_rfl) (by kernel_rfl) ?_
   rw[f100_run]
   exact⟨of_decide_eq_true rfl,⟨of_decide_eq_true rfl,⟨of_decide_eq_true rfl,⟨of_decide_eq_true rfl,⟨Nat.le_of_ble_eq_true rfl,⟨Nat.le_of_ble_eq_true rfl,cond_split (fun h0=>cond_split (fun h1=>⟨by simp only[h0,h1,cond_true,cond_false],by first | rfl | simp only[h0,h1,cond_true,cond_false]⟩) (fun h1=>⟨by simp only[h0,h1,cond_true,cond_false],by first | rfl | simp only[h0,h1,cond_true,cond_false]⟩)) (fun h0=>⟨by simp only[h0,cond_true,cond_false],by first | rfl | simp only[h0,cond_true,cond_false]⟩)⟩⟩⟩⟩⟩⟩
 · cases h
def con77:List AV→Option Tells
 | []=>some ⟨[],AV.view 0 0 8 136 (Ty.bool.pair (Ty.bool.pair Ty.unit)),[Ob.cells 136 [AV.int .i64 4,AV.fn (Fn.func 91) AV.nl AV.nl,AV.int .i64 10,AV.fn (Fn.func 93) AV.nl AV.nl,AV.int .i64 5,AV.fn (Fn.func 96) AV.nl AV.nl,AV.int .i64 6,AV.fn (Fn.func 97) AV.nl AV.nl,AV.int .i64 7,AV.fn (Fn.func 98) AV.nl AV.nl,AV.int .i64 8,AV.fn (Fn.func 99) AV.nl AV.nl,AV.int .i64 9,AV.fn (Fn.func 100) AV.nl AV.nl,AV.int .i64 11,AV.fn (Fn.func 102) AV.nl AV.nl]]⟩
 | _=>none
theorem f77_run (R:AV→List Ob→Prop):fnA tab eF4 Tryz.f77 (bodyOf Tryz.f77) [] R=(R (AV.view 0 0 8 136 (Ty.bool.pair (Ty.bool.pair Ty.unit))) [Ob.cells 136 [AV.int .i64 4,AV.fn (Fn.func 91) AV.nl AV.nl,AV.int .i64 10,AV.fn (Fn.func 93) AV.nl AV.nl,AV.int .i64 5,AV.fn (Fn.func 96) AV.nl AV.nl,AV.int .i64 6,AV.fn (Fn.func 97) AV.nl AV.nl,AV.int .i64 7,AV.fn (Fn.func 98) AV.nl AV.nl,AV.int .i64 8,AV.fn (Fn.func 99) AV.nl AV.nl,AV.int .i64 9,AV.fn (Fn.func 100) AV.nl AV.nl,AV.int .i64 11,AV.fn (Fn.func 102) AV.nl AV.nl]]):=by kernel_rfl
theorem ok77:ConOk Tryz.prog (77,con77):=by
 intro args t h hp
 simp only[con77] at h
 split at h
 · cases h
   refine fn_ok envF4 tab_ok mixed Tryz.func77 (by kernel_rfl) (by kernel_rfl) ?_
   rw[f77_run]
   exact⟨rfl,rfl⟩
 · cases h
def consF5:Cons:=(93,con93)::(100,con100)::(77,con77)::consF4
def twosF5:Cons2:=twosF4
def pansF5:Cons3:=pansF4
def itersF5:Cons4:=itersF4
abbrev eF5:Env:=envOf4 consF5 twosF5 pansF5 itersF5
theorem allconsF5:∀c∈consF5,ConOk Tryz.prog c:=all_cons ok93 (all_cons ok100 (all_cons ok77 allconsF4))
theorem alltwosF5:∀c∈twosF5,ConOk2 Tryz.prog c:=alltwosF4
theorem allpansF5:∀c∈pansF5,ConOk3 Tryz.prog c:=allpansF4
theorem allitersF5:∀c∈itersF5,ConOk4 Tryz.prog c:=allitersF4
theorem envF5:EnvOk Tryz.prog eF5:=envOf4_ok _ _ _ _ allconsF5 alltwosF5 allpansF5 allitersF5
def wrB1 (a1 a2 a3 a4 a5 a6 a7 a8 a9 a10 a11 a12 a13 a14:Int):Bool:=bif !decide (a2<1) then decide (a2>5) else true
def wrB2 (a1 a2 a3 a4 a5 a6 a7 a8 a9 a10 a11 a12 a13 a14:Int):Bool:=blk (decide (idxFrom bigB ([a5,a6]++([a7,a8,a9,a10]++[a11,a12,a13,a14])) 0≥0))
def wrB3 (a1 a2 a3 a4 a5 a6 a7 a8 a9 a10 a11 a12 a13 a14:Int):Bool:=bif a2==2 then bif !decide (a3<1) then decide (a3>2) else true else a3 != 0
def wrB4 (a1 a2 a3 a4 a5 a6 a7 a8 a9 a10 a11 a12 a13 a14:Int):Bool:=bif !bif !decide (a4<0) then decide (a4>3) else true then bif a2==5 then a4 != 0 else false else true
def wrB5 (a1 a2 a3 a4 a5 a6 a7 a8 a9 a10 a11 a12 a13 a14:Int):Bool:=bif a2==2 then bif !decide (a5<0) then decide (a6 < -1) else true else bif a2==5 then bif !decide (a5<0) then decide (a6<0) else true else bif !decide (a5 < -1) then decide (a6 < -1) else true
def wrB6 (a1 a2 a3 a4 a5 a6 a7 a8 a9 a10 a11 a12 a13 a14:Int):Bool:=bif a2==5 then !(a7==0&&(a8==0&&(a9==0&&(a10==0&&true)))) else false
def wrB7 (a1 a2 a3 a4 a5 a6 a7 a8 a9 a10 a11 a12 a13 a14:Int):Bool:=bif !decide (blk (minF [a11,a12,a13,a14])<0) then bif a2==5 then !(a11==0&&(a12==0&&(a13==0&&(a14==0&&true)))) else false else true
def wrB8 (a1 a2 a3 a4 a5 a6 a7 a8 a9 a10 a11 a12 a13 a14:Int):Bool:=bif !decide (a1<0) then decide (a1>256) else true
def pickE (c1 c2 c3 c4 c5 c6 c7 c8:Bool):Int:=bif c1 then 4 else bif c2 then 10 else bif c3 then 5 else bif c4 then 6 else bif c5 then 7 else bif c6 then 8 else bif c7 then 9 else bif c8 then 11 else 0
def chkB (a1 a2 a3 a4 a5 a6 a7 a8 a9 a10 a11 a12 a13 a14:Int):Int:=pickE (wrB1 a1 a2 a3 a4 a5 a6 a7 a8 a9 a10 a11 a12 a13 a14) (wrB2 a1 a2 a3 a4 a5 a6 a7 a8 a9 a10 a11 a12 a13 a14) (wrB3 a1 a2 a3 a4 a5 a6 a7 a8 a9 a10 a11 a12 a13 a14) (wrB4 a1 a2 a3 a4 a5 a6 a7 a8 a9 a10 a11 a12 a13 a14) (wrB5 a1 a2 a3 a4 a5 a6 a7 a8 a9 a10 a11 a12 a13 a14) (wrB6 a1 a2 a3 a4 a5 a6 a7 a8 a9 a10 a11 a12 a13 a14) (wrB7 a1 a2 a3 a4 a5 a6 a7 a8 a9 a10 a11 a12 a13 a14) (wrB8 a1 a2 a3 a4 a5 a6 a7 a8 a9 a10 a11 a12 a13 a14)
theorem pick_all (c1 c2 c3 c4 c5 c6 c7 c8:Bool):(0:Int)≤0∧(0:Int)<8∧bif c1 then (AV.int .i64 4=.int .i64 (pickE c1 c2 c3 c4 c5 c6 c7 c8)∧([]:List Ob)=[]) else (0:Int)≤1∧(1:Int)<8∧bif c2 then (AV.int .i64 10=.int .i64 (pickE c1 c2 c3 c4 c5 c6 c7 c8)∧([]:List Ob)=[]) else (0:Int)≤2∧(2:Int)<8∧bif c3 then (AV.int .i64 5=.int .i64 (pickE c1 c2 c3 c4 c5 c6 c7 c8)∧([]:List Ob)=[]) else (0:Int)≤3∧(3:Int)<8∧bif c4 then (AV.int .i64 6=.int .i64 (pickE c1 c2 c3 c4 c5 c6 c7 c8)∧([]:List Ob)=[]) else (0:Int)≤4∧(4:Int)<8∧bif c5 then (AV.int .i64 7=.int .i64 (pickE c1 c2 c3 c4 c5 c6 c7 c8)∧([]:List Ob)=[]) else (0:Int)≤5∧(5:Int)<8∧bif c6 then (AV.int .i64 8=.int .i64 (pickE c1 c2 c3 c4 c5 c6 c7 c8)∧([]:List Ob)=[]) else (0:Int)≤6∧(6:Int)<8∧bif c7 then (AV.int .i64 9=.int .i64 (pickE c1 c2 c3 c4 c5 c6 c7 c8)∧([]:List Ob)=[]) else (0:Int)≤7∧(7:Int)<8∧bif c8 then (AV.int .i64 11=.int .i64 (pickE c1 c2 c3 c4 c5 c6 c7 c8)∧([]:List Ob)=[]) else (AV.int .i64 0=.int .i64 (pickE c1 c2 c3 c4 c5 c6 c7 c8)∧([]:List Ob)=[]):=by
 refine⟨by decide,by decide,?_⟩
 cases c1 with
 | true=>exact⟨rfl,rfl⟩
 | false=>
  refine⟨by decide,by decide,?_⟩
  cases c2 with
  | true=>exact⟨rfl,rfl⟩
  | false=>
   refine⟨by decide,by decide,?_⟩
   cases c3 with
   | true=>exact⟨rfl,rfl⟩
   | false=>
    refine⟨by decide,by decide,?_⟩
    cases c4 with
    | true=>exact⟨rfl,rfl⟩
    | false=>
     refine⟨by decide,by decide,?_⟩
     cases c5 with
     | true=>exact⟨rfl,rfl⟩
     | false=>
      refine⟨by decide,by decide,?_⟩
      cases c6 with
      | true=>exact⟨rfl,rfl⟩
      | false=>
       refine⟨by decide,by decide,?_⟩
       cases c7 with
       | true=>exact⟨rfl,rfl⟩
       | false=>
        refine⟨by decide,by decide,?_⟩
        cases c8 with
        | true=>exact⟨rfl,rfl⟩
        | false=>
         exact⟨rfl,rfl⟩
def con56:List AV→Option Tells
 | [.agg (.cons (.int .i64 a1) (.cons (.int .i64 a2) (.cons (.int .i64 a3) (.cons (.int .i64 a4) (.cons (.int .i64 a5) (.cons (.int .i64 a6) (.cons (.int .i64 a7) (.cons (.int .i64 a8) (.cons (.int .i64 a9) (.cons (.int .i64 a10) (.cons (.int .i64 a11) (.cons (.int .i64 a12) (.cons (.int .i64 a13) (.cons (.int .i64 a14) .nl))))))))))))))]=>some ⟨[],.int .i64 (blk (chkB a1 a2 a3 a4 a5 a6 a7 a8 a9 a10 a11 a12 a13 a14)),[]⟩
 | _=>none
def f56_live1:List Nat:=[7,6,5,7,1,7,2]
def f56_head1 (a1:Int) (a2:Int) (a3:Int) (a4:Int) (a5:Int) (a6:Int) (a7:Int) (a8:Int) (a9:Int) (a10:Int) (a11:Int) (a12:Int) (a13:Int) (a14:Int):St:={slots:=[AV.undef,AV.ptr 0 0,AV.int .i64 0,AV.undef,AV.undef,AV.view 1 0 8 136 (Ty.bool.pair (Ty.bool.pair Ty.unit)),AV.int .i64 8,AV.int .i64 0]++List.replicate 10 AV.undef,obs:=[Ob.cells 54 [AV.int .i64 a1,AV.int .i64 a2,AV.int .i64 a3,AV.int .i64 a4,AV.int .i64 a5,AV.int .i64 a6,AV.int .i64 a7,AV.int .i64 a8,AV.int .i64 a9,AV.int .i64 a10,AV.int .i64 a11,AV.int .i64 a12,AV.int .i64 a13,AV.int .i64 a14],Ob.cells 136 [AV.int .i64 4,AV.fn (Fn.func 91) AV.nl AV.nl,AV.int .i64 10,AV.fn (Fn.func 93) AV.nl AV.nl,AV.int .i64 5,AV.fn (Fn.func 96) AV.nl AV.nl,AV.int .i64 6,AV.fn (Fn.func 97) AV.nl AV.nl,AV.int .i64 7,AV.fn (Fn.func 98) AV.nl AV.nl,AV.int .i64 8,AV.fn (Fn.func 99) AV.nl AV.nl,AV.int .i64 9,AV.fn (Fn.func 100) AV.nl AV.nl,AV.int .i64 11,AV.fn (Fn.func 102) AV.nl AV.nl]]}
def f56_q1 (R:AV→List Ob→Prop):Ex→St→Prop:=blockA 0 (seqQ tab eF5 (subC [1,1] (bodyOf Tryz.f56)) [2] (endA tab Tryz.f56 R))
def f56_loop1 (R:AV→List Ob→Prop) (a1:Int) (a2:Int) (a3:Int) (a4:Int) (a5:Int) (a6:Int) (a7:Int) (a8:Int) (a9:Int) (a10:Int) (a11:Int) (a12:Int) (a13:Int) (a14:Int):Prop:=loopT f56_live1 (codeA tab eF5 (subC [1,0,1,0,0] (bodyOf Tryz.f56)) f56_live1) (f56_head1 a1 a2 a3 a4 a5 a6 a7 a8 a9 a10 a11 a12 a13 a14) (f56_q1 R)
set_option maxHeartbeats 2000000 in
theorem f56_eq1 (R:AV→List Ob→Prop) (a1:Int) (a2:Int) (a3:Int) (a4:Int) (a5:Int) (a6:Int) (a7:Int) (a8:Int) (a9:Int) (a10:Int) (a11:Int) (a12:Int) (a13:Int) (a14:Int):loopU f56_live1 (codeA tab eF5 (subC [1,0,1,0,0] (bodyOf Tryz.f56)) f56_live1) 40 (f56_head1 a1 a2 a3 a4 a5 a6 a7 a8 a9 a10 a11 a12 a13 a14) (f56_q1 R)=((0:Int)≤0∧(0:Int)<8∧bif bif !decide (a2<1) then decide (a2>5) else true then R (AV.int .i64 4) [] else (0:Int)≤1∧(1:Int)<8∧bif blk (decide (idxFrom bigB ([a5,a6]++([a7,a8,a9,a10]++[a11,a12,a13,a14])) 0≥0)) then R (AV.int .i64 10) [] else (0:Int)≤2∧(2:Int)<8∧bif bif a2==2 then bif !decide (a3<1) then decide (a3>2) else true else a3 != 0 then R (AV.int .i64 5) [] else (0:Int)≤3∧(3:Int)<8∧bif bif !bif !decide (a4<0) then decide (a4>3) else true then bif a2==5 then a4 != 0 else false else true then R (AV.int .i64 6) [] else (0:Int)≤4∧(4:Int)<8∧bif bif a2==2 then bif !decide (a5<0) then decide (a6 < -1) else true else bif a2==5 then bif !decide (a5<0) then decide (a6<0) else true else bif !decide (a5 < -1) then decide (a6 < -1) else true then R (AV.int .i64 7) [] else (0:Int)≤5∧(5:Int)<8∧bif bif a2==5 then !(a7==0&&(a8==0&&(a9==0&&(a10==0&&true)))) else false then R (AV.int .i64 8) [] else (0:Int)≤6∧(6:Int)<8∧bif bif !decide (blk (minF [a11,a12,a13,a14])<0) then bif a2==5 then !(a11==0&&(a12==0&&(a13==0&&(a14==0&&true)))) else false else true then R (AV.int .i64 9) [] else (0:Int)≤7∧(7:Int)<8∧bif bif !decide (a1<0) then decide (a1>256) else true then R (AV.int .i64 11) [] else R (AV.int .i64 0) []):=by kernel_rfl
set_option maxHeartbeats 2000000 in
theorem f56_rule1 (R:AV→List Ob→Prop) (a1:Int) (a2:Int) (a3:Int) (a4:Int) (a5:Int) (a6:Int) (a7:Int) (a8:Int) (a9:Int) (a10:Int) (a11:Int) (a12:Int) (a13:Int) (a14:Int) (h:(0:Int)≤0∧(0:Int)<8∧bif bif !decide (a2<1) then decide (a2>5) else true then R (AV.int .i64 4) [] else (0:Int)≤1∧(1:Int)<8∧bif blk (decide (idxFrom bigB ([a5,a6]++([a7,a8,a9,a10]++[a11,a12,a13,a14])) 0≥0)) then R (AV.int .i64 10) [] else (0:Int)≤2∧(2:Int)<8∧bif bif a2==2 then bif !decide (a3<1) then decide (a3>2) else true else a3 != 0 then R (AV.int .i64 5) [] else (0:Int)≤3∧(3:Int)<8∧bif bif !bif !decide (a4<0) then decide (a4>3) else true then bif a2==5 then a4 != 0 else false else true then R (AV.int .i64 6) [] else (0:Int)≤4∧(4:Int)<8∧bif bif a2==2 then bif !decide (a5<0) then decide (a6 < -1) else true else bif a2==5 then bif !decide (a5<0) then decide (a6<0) else true else bif !decide (a5 < -1) then decide (a6 < -1) else true then R (AV.int .i64 7) [] else (0:Int)≤5∧(5:Int)<8∧bif bif a2==5 then !(a7==0&&(a8==0&&(a9==0&&(a10==0&&true)))) else false then R (AV.int .i64 8) [] else (0:Int)≤6∧(6:Int)<8∧bif bif !decide (blk (minF [a11,a12,a13,a14])<0) then bif a2==5 then !(a11==0&&(a12==0&&(a13==0&&(a14==0&&true)))) else false else true then R (AV.int .i64 9) [] else (0:Int)≤7∧(7:Int)<8∧bif bif !decide (a1<0) then decide (a1>256) else true then R (AV.int .i64 11) [] else R (AV.int .i64 0) []):f56_loop1 R a1 a2 a3 a4 a5 a6 a7 a8 a9 a10 a11 a12 a13 a14:=loop_rounds 40 (Eq.mpr (f56_eq1 R a1 a2 a3 a4 a5 a6 a7 a8 a9 a10 a11 a12 a13 a14) h)
theorem f56_run (R:AV→List Ob→Prop) (a1 a2 a3 a4 a5 a6 a7 a8 a9 a10 a11 a12 a13 a14:Int):fnA tab eF5 Tryz.f56 (bodyOf Tryz.f56) [.agg (.cons (.int .i64 a1) (.cons (.int .i64 a2) (.cons (.int .i64 a3) (.cons (.int .i64 a4) (.cons (.int .i64 a5) (.cons (.int .i64 a6) (.cons (.int .i64 a7) (.cons (.int .i64 a8) (.cons (.int .i64 a9) (.cons (.int .i64 a10) (.cons (.int .i64 a11) (.cons (.int .i64 a12) (.cons (.int .i64 a13) (.cons (.int .i64 a14) .nl))))))))))))))] R=(f56_loop1 R a1 a2 a3 a4 a5 a6 a7 a8 a9 a10 a11 a12 a13 a14):=by kernel_rfl
theorem ok56:ConOk Tryz.prog (56,con56):=by
 intro args t h hp
 change con56 args=some t at h
 unfold con56 at h
 split at h
 · rename_i a1 a2 a3 a4 a5 a6 a7 a8 a9 a10 a11 a12 a13 a14
   cases h
   refine fn_ok envF5 tab_ok mixed Tryz.func56 (by kernel_rfl) (by kernel_rfl) ?_
   rw[f56_run]
   try dsimp only
   rw[blk_eq]
   refine f56_rule1 _ a1 a2 a3 a4 a5 a6 a7 a8 a9 a10 a11 a12 a13 a14 ?_
   exact pick_all _ _ _ _ _ _ _ _
 · cases h
end
end Go.Proofs.YtkpjcmiijlpcaaaGreat.W
namespace Go.Proofs.YtkpjcmiijlpcaaaGreat.Aw
open Go
def fr:Ty→Ty
 | .int k=>.int k
 | .bool=>.bool
 | .str=>.str
 | .list e t=>.list e t
 | .pair a b=>.pair (fr a) (fr b)
 | .unit=>.unit
 | .ol e t=>.list e t
def frx:(t:Ty)→t.den→(fr t).den
 | .int _,x=>x
 | .bool,x=>x
 | .str,x=>x
 | .list _ _,x=>x
 | .pair a b,x=>(frx a x.1,frx b x.2)
 | .unit,x=>x
 | .ol _ _,x=>x
inductive Frz (H:Nat→Ob):AV→AV→Prop
 | keep (a:AV) (h:a.rowRefs=[]) (hp:a.lend H=a):Frz H a a
 | nils (e:TypeId) (t:Ty):Frz H (.nils e t) (.list e t [])
 | nil0 (e:TypeId) (t:Ty):Frz H .nil0 (.list e t [])
 | row (k:Nat) (e:TypeId) (t:Ty) (xs:List t.den) (h:H k=.row e t xs):Frz H (.row k) (.list e t xs)
 | orow (k:Nat) (e:TypeId) (t:Ty) (xs:List t.den) (ys:List (fr t).den) (h:H k=.orow e t xs) (hy:xs.map (frx t)=ys):Frz H (.row k) (.list e (fr t) ys)
 | ptr (k off:Nat) (e e':TypeId) (cs cs':List AV) (t:Ty) (x:t.den) (h:H k=.cells e cs) (hc:Frz H (AV.ofList cs) (AV.ofList cs')) (hd:dec1 t cs'=some x):Frz H (.ptr k off) (.lptr e' t [x] 0 off)
 | agg (c c':AV) (h:Frz H c c'):Frz H (.agg c) (.agg c')
 | tuple (c c':AV) (h:Frz H c c'):Frz H (.tuple c) (.tuple c')
 | iface (t:TypeId) (c c':AV) (h:Frz H c c'):Frz H (.iface t c) (.iface t c')
 | fn (f:Fn) (a a' b b':AV) (h1:Frz H a a') (h2:Frz H b b'):Frz H (.fn f a b) (.fn f a' b')
 | nl:Frz H .nl .nl
 | cons (a a' b b':AV) (h1:Frz H a a') (h2:Frz H b b'):Frz H (.cons a b) (.cons a' b')
section
variable {S S1:Nat→Prop} {w:World} {β:Nat→Cr} {H:Nat→Ob} {M S0:Nat→Prop} {w0:World}
theorem VL_toVLs {S:Nat→Prop} {w:World} {β:Nat→Cr} {H:Nat→Ob}:∀(l:List AV) (vs:List Value),VL S w β H (AV.ofList l) vs→VLs S w β H l vs
 | [],_,h=>h
 | _::l,_,⟨v,r,e,h1,h2⟩=>⟨v,r,e,h1,VL_toVLs l r h2⟩
theorem DRo.frozen (h:∀b,S b→S1 b):∀(t:Ty) (x:t.den) (cs:List Value) (F:List Nat),(∀b∈F,S1 b)→DRo S w t x cs F→DR S1 w (fr t) (frx t x) cs
 | .ol e t,xs,cs,F,hF,hd=>by
  rcases hd with ⟨rfl,e2,rfl⟩ | ⟨g,cap,cur,e1,e2,e3,e4,e5,e6,e7⟩
  · cases e2
    exact⟨none,0,0,[],rfl,rfl,Nat.le_refl _,rfl,fun j u hj=>by simp at hj,fun _=>rfl⟩
  · refine⟨some ⟨g,0,none⟩,xs.length,cap,_,e1,rfl,e4,Cat.dr_mono (fun b hb=>⟨h b hb,rfl⟩) e7,fun j u hj=>⟨_,rfl,?_,?_⟩,fun h=>by cases h⟩
    · exact hF g (by rw[e2];simp)
    · rw[add_lit,cell_of_row w g _ _ _ _ e3]
      rw[List.getElem?_take] at hj
      split at hj
      · simpa using hj
      · cases hj
 | .pair a b,x,cs,F,hF,⟨c1,c2,F1,F2,e1,e2,h1,h2⟩=>⟨c1,c2,e1,DRo.frozen h a x.1 c1 F1 (fun b hb=>hF b (by rw[e2];simp[hb])) h1,DRo.frozen h b x.2 c2 F2 (fun b hb=>hF b (by rw[e2];simp[hb])) h2⟩
 | .int k,x,cs,F,_,hd=>DR.mono (fun b hb=>⟨h b hb,rfl⟩) (.int k) x cs hd.1
 | .bool,x,cs,F,_,hd=>DR.mono (fun b hb=>⟨h b hb,rfl⟩) .bool x cs hd.1
 | .str,x,cs,F,_,hd=>DR.mono (fun b hb=>⟨h b hb,rfl⟩) .str x cs hd.1
 | .list e t,x,cs,F,_,hd=>DR.mono (fun b hb=>⟨h b hb,rfl⟩) (.list e t) x cs hd.1
 | .unit,x,cs,F,_,hd=>DR.mono (fun b hb=>⟨h b hb,rfl⟩) .unit x cs hd.1
theorem CatO.frozen (h:∀b,S b→S1 b) {t:Ty}:∀(xs:List t.den) (cs:List Value) (F:List Nat),(∀b∈F,S1 b)→CatO S w t xs cs F→Cat (DR S1 w (fr t)) (xs.map (frx t)) cs
 | [],_,_,_,h1=>h1.1
 | x::xs,cs,F,hF,⟨c1,c2,F1,F2,e1,e2,h1,h2⟩=>⟨c1,c2,e1,h1.frozen h t x c1 F1 (fun b hb=>hF b (by rw[e2];simp[hb])),h2.frozen h xs c2 F2 (fun b hb=>hF b (by rw[e2];simp[hb]))⟩
theorem Frz.of (hr:Rel M S0 w0 S β H w) (h:∀b,S b→S1 b) (hl:∀k g,(H k).live=true→(β k).has g→S1 g) {a a':AV} (hf:Frz H a a'):∀vs,VL S w β H a vs→VL S1 w cr0 ob0 a' vs:=by
 induction hf with
 | keep a h1 hp=>
  intro vs hv
  have:=lend_of hr h a vs (fun k hk=>by rw[h1] at hk;cases hk) hv
  rwa [hp] at this
 | nils e t=>rintro vs ⟨v,e1,hv⟩;exact⟨v,e1,nils_list hv⟩
 | nil0 e t=>rintro vs ⟨v,e1,hv⟩;exact⟨v,e1,nils_list (e:=e) (t:=t) (w:=w) (S:=S) (β:=β) (H:=H) hv⟩
 | row k e t xs hk=>rintro vs ⟨v,e1,hv⟩;exact⟨v,e1,row_list hr h hk (fun g hg=>hl k g (by rw[hk];rfl) (.inl hg)) hv⟩
 | orow k e t xs ys hk hy=>
  rintro vs ⟨v,e1,hv⟩
  subst hy
  refine⟨v,e1,?_⟩
  simp only[leaf,hk] at hv
  have hob:=hr.ob k
  have hS:=hl k
  rw[hk] at hob hS
  rcases hob with ⟨e2,e3,_⟩ | ⟨g,cur,e2,e3,e4,e5,e6,e7,_⟩
  · subst e3
    refine⟨none,0,0,[],?_,rfl,Nat.le_refl _,rfl,fun j u hj=>by simp at hj,fun _=>rfl⟩
    rw[hv];unfold rowV;rw[e2]
  · refine⟨some ⟨g,0,none⟩,xs.length,(β k).cap,_,by rw[hv,rowV_some e2],by rw[List.length_map],e4,e7.frozen h xs _ _ (fun b hb=>hS b rfl (.inr hb)),fun j u hj=>⟨_,rfl,?_,?_⟩,fun h=>by cases h⟩
    · exact hS g rfl (.inl e2)
    · rw[add_lit,cell_of_row w g _ _ _ _ e3]
      rw[List.getElem?_take] at hj
      split at hj
      · simpa using hj
      · cases hj
 | ptr k off e e' cs cs' t x hk hc hd ih=>
  rintro vs ⟨v,e1,hv⟩
  refine⟨v,e1,Int.le_refl _,by simp,?_⟩
  simp only[leaf,hk] at hv
  obtain⟨g,e2,e3⟩:=hv
  have hob:=hr.ob k
  have hS:=hl k
  rw[hk] at hob hS
  obtain⟨g',us,e4,e5,e6⟩:=hob
  have eg:g'=g:=by rw[e4] at e2;exact Option.some.inj e2
  subst eg
  have hd1:=dec1_of (VL_toVLs _ _ (ih us (VLs.of_list _ _ e6))) hd
  refine⟨⟨g',0,none⟩,us,⟨us,[],by simp,hd1,rfl⟩,fun j u hj=>⟨_,rfl,hS g' rfl (.inl e2),?_⟩,?_⟩
  · rw[add_lit,cell_of_row w g' _ _ _ _ e5]
    simpa using hj
  · rw[e3]
    simp[add_lit]
 | agg c c' _ ih=>exact fun _ ⟨cs,e,h⟩=>⟨cs,e,ih _ h⟩
 | tuple c c' _ ih=>exact fun _ ⟨cs,e,h⟩=>⟨cs,e,ih _ h⟩
 | iface t c c' _ ih=>exact fun _ ⟨v,e,h⟩=>⟨v,e,ih _ h⟩
 | fn f a a' b b' _ _ ih1 ih2=>exact fun _ ⟨x,y,e,h1,h2⟩=>⟨x,y,e,ih1 _ h1,ih2 _ h2⟩
 | nl=>exact fun _ h=>h
 | cons a a' b b' _ _ ih1 ih2=>exact fun _ ⟨v,r,e,h1,h2⟩=>⟨v,r,e,ih1 _ h1,ih2 _ h2⟩
theorem Rel.frozen (hr:Rel (fun _=>False) S0 w0 S β H w):Rel (fun _=>False) S0 w0 (fun b=>S b∨ownB β H b) cr0 ob0 w:=
 ⟨hr.fr,fun b hb=>.inl (hr.s0 b hb),fun b hb=>by
  rcases hb with hb | ⟨k,h1,h2⟩
  · exact hr.sS b hb
  · obtain⟨q1,q2,q3⟩:=hr.own k b h1 h2
    exact⟨q2,.inr (q1.resolve_left id)⟩,fun k g hk=>(by cases hk),fun k k' g hk=>(by cases hk),fun k=>trivial⟩
end
theorem fn_okF {P:Program} {T:Tab} {env:Env} (he:EnvOk P env) (hT:TabOk P T) (hm:P.follows .mixedOrders=true) {g:FuncId} {fn:Func} (hf:P.funcs[g]? = some fn) (hname:(fn.name == "runtime.NumGoroutine")=false) (hb:fn.body.isSome=true) {args:List AV} {v:AV}
 (h:fnA T env fn (bodyOf fn) args fun v' news'=>Frz (newsH news') v' v) (hy:env.ycnt=0∧env.isIt=false:=by exact⟨rfl,rfl⟩):ACalls P g args v []:=by
 obtain⟨c,hc⟩:=Option.isSome_iff_exists.1 hb
 have e:bodyOf fn=c:=by unfold bodyOf;rw[hc];rfl
 rw[e] at h
 refine⟨⟨fn,hf,hname,by rw[hc];rfl⟩,fun S w vs hS hvs=>Calls.mono (fn_callsR he hy hT hm hf hc h S w vs hS hvs) ?_⟩
 rintro e w' ⟨v',news',u,hz,rfl,S',β',hr,hv⟩
 exact⟨u,rfl,_,cr0,hr.frozen,hz.of hr (fun b hb=>.inl hb) (fun k g h1 h2=>.inr ⟨k,h1,h2⟩) _ hv⟩
end Go.Proofs.YtkpjcmiijlpcaaaGreat.Aw
namespace Go.Proofs.YtkpjcmiijlpcaaaGreat.Aw
open Go
def TI.agg (i:TI):Bool:=match i.d with
 | .struct _=>true
 | .array _ _=>true
 | _=>false
def Tab.tell (T:Tab) (t:TypeId) (x:Ty):Tab:=bif (T.at_ t).agg then (t,{T.at_ t with t:=some x})::T else T
theorem TabOk.tell {P:Program} {T:Tab} (h:TabOk P T) (t:TypeId) (x:Ty):TabOk P (T.tell t x):=by
 unfold Tab.tell
 cases ha:(T.at_ t).agg with
 | false=>exact h
 | true=>
  intro t' hk
  unfold Tab.at_ at hk ⊢
  rw[cond_true,List.lookup_cons] at hk ⊢
  cases e:t'==t with
  | false=>rw[e] at hk;exact h t' hk
  | true=>
   have e:t'=t:=by simpa using e
   subst e
   have hd:(T.at_ t').d≠.unk:=by
    intro hc;rw[TI.agg,hc] at ha;cases ha
   obtain⟨h1,h2,h3,h4⟩:=h t' hd
   have key:DescOk P t' {T.at_ t' with t:=some x}:=by
    unfold DescOk at h3 ⊢
    unfold TI.agg at ha
    cases hc:(T.at_ t').d with
    | struct fs=>rw[hc] at h3;simp only;exact h3
    | array n e=>rw[hc] at h3;simp only;exact h3
    | unk=>rw[hc] at ha;cases ha
    | scalar=>rw[hc] at ha;cases ha
    | slice e=>rw[hc] at ha;cases ha
    | map k e=>rw[hc] at ha;cases ha
   exact⟨h1,h2,key,h4⟩
def retell (e:TypeId) (x:Ty):AV→AV
 | .nils e1 t1=>.nils e1 (bif e1==e then x else t1)
 | a=>a
def Tab.tellZ (T:Tab) (t e:TypeId) (x:Ty):Tab:=(t,{T.at_ t with zero:=(T.at_ t).zero.map (retell e x)})::T
theorem VLs.retell {S:Nat→Prop} {w:World} {β:Nat→Cr} {H:Nat→Ob} (e:TypeId) (x:Ty):∀(l:List AV) (vs:List Value),VLs S w β H l vs→VLs S w β H (l.map (Aw.retell e x)) vs
 | [],_,h=>h
 | a::l,_,⟨v,r,e1,h1,h2⟩=>⟨v,r,e1,by
  cases a<;>first | exact h1 | (obtain⟨u,e2,h3⟩:=h1;exact⟨u,e2,h3⟩),VLs.retell e x l r h2⟩
theorem DescOk.retell {P:Program} {t' e:TypeId} {x:Ty} {i:TI} (h3:DescOk P t' i):DescOk P t' {i with zero:=i.zero.map (Aw.retell e x)}:=by
 unfold DescOk at h3 ⊢
 cases hc:i.d with
 | scalar=>
  rw[hc] at h3
  simp only
  obtain⟨d,r1,r2,r3,r4,r5,r6⟩:=h3
  refine⟨d,r1,r2,r3,r4,r5,fun hz=>r6 ?_⟩
  generalize i.zero=zs at hz ⊢
  match zs,hz with
  | [a],hz=>
   simp only[List.map_cons,List.map_nil,List.cons.injEq,and_true] at hz
   cases a<;>simp[Aw.retell] at hz ⊢
  | [],hz=>simp at hz
  | _::_::_,hz=>simp at hz
 | struct fs=>rw[hc] at h3;exact h3
 | array n e=>rw[hc] at h3;exact h3
 | unk=>rw[hc] at h3;exact h3
 | slice e=>rw[hc] at h3;exact h3
 | map k e=>rw[hc] at h3;exact h3
theorem TabOk.tellZ {P:Program} {T:Tab} (h:TabOk P T) (t e:TypeId) (x:Ty):TabOk P (T.tellZ t e x):=by
 unfold Tab.tellZ
 intro t' hk
 unfold Tab.at_ at hk ⊢
 rw[List.lookup_cons] at hk ⊢
 cases e':t'==t with
 | false=>rw[e'] at hk;exact h t' hk
 | true=>
  have e'':t'=t:=by simpa using e'
  subst e''
  rw[e'] at hk
  obtain⟨⟨f,q1,q2,q3,z,q4,q5⟩,h2,h3,h4⟩:=h t' hk
  exact⟨⟨f,q1,q2,q3,z,q4,fun S w β H=>VLs.retell e x _ _ (q5 S w β H)⟩,(List.length_map ..).trans h2,DescOk.retell h3,h4⟩
end Go.Proofs.YtkpjcmiijlpcaaaGreat.Aw
