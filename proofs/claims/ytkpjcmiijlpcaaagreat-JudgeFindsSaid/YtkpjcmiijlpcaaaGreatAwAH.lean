/- The functions of layer 6 (tree), and what they come to: building. -/
import Derived.Test.YtkpjcmiijlpcaaaGreatEa
import Derived.Test.YtkpjcmiijlpcaaaGreatAwAF
import Derived.KernelRfl
import Derived.Test.YtkpjcmiijlpcaaaGreatAwW
import Derived.Test.YtkpjcmiijlpcaaaGreatAwAA
set_option linter.unusedVariables false
set_option linter.unusedSimpArgs false
namespace Go.Proofs.YtkpjcmiijlpcaaaGreat.W
open Go Go.Proofs Go.Proofs.YtkpjcmiijlpcaaaGreat.Aw
noncomputable section
abbrev TNo:Ty:=.pair TB (.pair (.int .i64) (.pair (.int .i64) (.pair (.int .i64) (.ol 3 (.int .i64)))))
abbrev TN:Ty:=.pair TB (.pair (.int .i64) (.pair (.int .i64) (.pair (.int .i64) (.list 3 (.int .i64)))))
abbrev Nd:=Bx×Int×Int×Int×List Int
def tabN:Tab:=(tab.tell 92 TNo).tellZ 88 92 TNo
theorem tabN_ok:TabOk Tryz.prog tabN:=(tab_ok.tell _ _).tellZ _ _ _
abbrev zNd:Nd:=((0,0,0,0,0,0,(0,0,0,0),0,0,0,0),0,0,0,[])
def fitsB (a1 a2:Int):Bool:=match con57 [.int .i64 a1,.int .i64 a2] with
 | some ⟨_,.bool b,_⟩=>b
 | _=>false
def con57_b:List AV→Option Tells
 | [.int .i64 a1,.int .i64 a2]=>some ⟨[],.bool (blk (fitsB a1 a2)),[]⟩
 | _=>none
theorem ok57_b:ConOk Tryz.prog (57,con57_b):=by
 intro args t h hp
 simp only[con57_b] at h
 split at h
 · rename_i a1 a2
   cases h
   show ACalls _ _ _ (.bool (blk _)) []
   rw[blk_eq]
   exact ok57 [.int .i64 a1,.int .i64 a2] ⟨[],.bool (fitsB a1 a2),[]⟩ rfl (fun p h=>by cases h)
 · cases h
def openB (a1:Int):Bool:=match con58 [.int .i64 a1] with
 | some ⟨_,.bool b,_⟩=>b
 | _=>false
def con58_b:List AV→Option Tells
 | [.int .i64 a1]=>some ⟨[],.bool (blk (openB a1)),[]⟩
 | _=>none
theorem ok58_b:ConOk Tryz.prog (58,con58_b):=by
 intro args t h hp
 simp only[con58_b] at h
 split at h
 · rename_i a1
   cases h
   show ACalls _ _ _ (.bool (blk _)) []
   rw[blk_eq]
   exact ok58 [.int .i64 a1] ⟨[],.bool (openB a1),[]⟩ rfl (fun p h=>by cases h)
 · cases h
def rootB (a1 a2 a4 a5 a7 a8 a9 a10:Int):Bool:=a1==0&&(a2==3&&(decide (a5≥0)&&((a7==0&&(a8==0&&(a9==0&&(a10==0&&true))))&&a4==0)))
def chkT (n:Nat) (k:Int) (a1 a2 a3 a4 a5 a6 a7 a8 a9 a10 a11 a12 a13 a14 p:Int):Int:=
 bif (n:Int)==65536 then 3 else bif chkB a1 a2 a3 a4 a5 a6 a7 a8 a9 a10 a11 a12 a13 a14 != 0 then chkB a1 a2 a3 a4 a5 a6 a7 a8 a9 a10 a11 a12 a13 a14
 else bif (bif (n:Int)==0 then rootB a1 a2 a4 a5 a7 a8 a9 a10 else bif decide (p≥0) then fitsB k a2 else false) then 0 else 12
def withinT (n:Nat) (k c p:Int):Int:=bif decide (p<0) then 0 else bif openB k then p else c
theorem root_all (c1 c2 c3 c4 c5:Bool) (o o':List Ob) (ho:o=o'):bif c1 then bif c2 then bif c3 then bif c4 then bif !c5 then (AV.int .i64 12=AV.int .i64 (bif (c1&&(c2&&(c3&&(c4&&c5)))) then 0 else 12)∧o=o') else (AV.int .i64 0=AV.int .i64 (bif (c1&&(c2&&(c3&&(c4&&c5)))) then 0 else 12)∧o=o') else (AV.int .i64 12=AV.int .i64 (bif (c1&&(c2&&(c3&&(c4&&c5)))) then 0 else 12)∧o=o') else (AV.int .i64 12=AV.int .i64 (bif (c1&&(c2&&(c3&&(c4&&c5)))) then 0 else 12)∧o=o') else (AV.int .i64 12=AV.int .i64 (bif (c1&&(c2&&(c3&&(c4&&c5)))) then 0 else 12)∧o=o') else (AV.int .i64 12=AV.int .i64 (bif (c1&&(c2&&(c3&&(c4&&c5)))) then 0 else 12)∧o=o'):=by
 cases c1<;>cases c2<;>cases c3<;>cases c4<;>cases c5<;>exact⟨rfl,ho⟩
def consG0:Cons:=(56,con56)::(58,con58_b)::(57,con57_b)::[]
def twosG0:Cons2:=[]
def pansG0:Cons3:=[]
def itersG0:Cons4:=[]
abbrev eG0:Env:=envOf4 consG0 twosG0 pansG0 itersG0
theorem allconsG0:∀c∈consG0,ConOk Tryz.prog c:=all_cons ok56 (all_cons ok58_b (all_cons ok57_b all_nil))
theorem alltwosG0:∀c∈twosG0,ConOk2 Tryz.prog c:=all_nil
theorem allpansG0:∀c∈pansG0,ConOk3 Tryz.prog c:=all_nil
theorem allitersG0:∀c∈itersG0,ConOk4 Tryz.prog c:=all_nil
theorem envG0:EnvOk Tryz.prog eG0:=envOf4_ok _ _ _ _ allconsG0 alltwosG0 allpansG0 allitersG0
def con36:List AV→List Ob→Option Tells2
 | [.ptr 0 0,.int .i64 p],[.cells 88 [.row 1],.orow 92 (.pair (.pair (.int .i64) (.pair (.int .i64) (.pair (.int .i64) (.pair (.int .i64) (.pair (.int .i64) (.pair (.int .i64) (.pair (.pair (.int .i64) (.pair (.int .i64) (.pair (.int .i64) (.int .i64)))) (.pair (.int .i64) (.pair (.int .i64) (.pair (.int .i64) (.int .i64))))))))))) (.pair (.int .i64) (.pair (.int .i64) (.pair (.int .i64) (.ol 3 (.int .i64)))))) xs]=>some ⟨[p<xs.length],.int .i64 (blk (withinT xs.length (xs.getD p.toNat zNd).1.2.1 (xs.getD p.toNat zNd).2.2.2.1 p)),[none,none],[]⟩
 | _,_=>none
set_option maxHeartbeats 2000000 in
theorem f36_run (R:AV→List Ob→Prop) (p:Int) (xs:List TNo.den):fnB tabN eG0 Tryz.f36 (bodyOf Tryz.f36) [.ptr 0 0,.int .i64 p] [.cells 88 [.row 1],.orow 92 TNo xs] R=(bif decide (p<0) then R (AV.int .i64 0) [Ob.cells 88 [AV.row 1],Ob.orow 92 (TB.pair (KI.pair (KI.pair (KI.pair (Ty.ol 3 KI))))) xs] else 0≤p∧p<(↑xs.length:Int)∧bif blk (openB (xs.getD p.toNat ((0,0,0,0,0,0,(0,0,0,0),0,0,0,0),0,0,0,[])).fst.snd.fst) then R (AV.int .i64 p) [Ob.cells 88 [AV.row 1],Ob.orow 92 (TB.pair (KI.pair (KI.pair (KI.pair (Ty.ol 3 KI))))) xs] else 0≤p∧p<(↑xs.length:Int)∧R (AV.int .i64 (xs.getD p.toNat ((0,0,0,0,0,0,(0,0,0,0),0,0,0,0),0,0,0,[])).snd.snd.snd.fst) [Ob.cells 88 [AV.row 1],Ob.orow 92 (TB.pair (KI.pair (KI.pair (KI.pair (Ty.ol 3 KI))))) xs]):=by kernel_rfl
theorem ok36:ConOk2 Tryz.prog (36,con36):=by
 intro args obs t h hp
 change con36 args obs=some t at h
 unfold con36 at h
 split at h
 · rename_i p xs
   change List TNo.den at xs
   cases h
   refine fn_ok2 envG0 tabN_ok mixed Tryz.func36 (by kernel_rfl) (by kernel_rfl) ?_
   rw[f36_run]
   try dsimp only
   have hx:=hp (p<xs.length) (by simp)
   rw[blk_eq,blk_eq]
   unfold withinT
   refine cond_split (fun h => ?_) (fun h => ?_)
   · rw[h];exact⟨rfl,rfl⟩
   · have h':¬p<0:=of_decide_eq_false h
     rw[h]
     refine⟨by omega,hx,cond_split (fun h2 => ?_) (fun h2 => ?_)⟩
     · rw[show openB _=true from h2];exact⟨rfl,rfl⟩
     · rw[show openB _=false from h2];exact⟨by omega,hx,rfl,rfl⟩
 · cases h
def con35:List AV→List Ob→Option Tells2
 | [.ptr 0 0,.agg (.cons (.int .i64 a1) (.cons (.int .i64 a2) (.cons (.int .i64 a3) (.cons (.int .i64 a4) (.cons (.int .i64 a5) (.cons (.int .i64 a6) (.cons (.int .i64 a7) (.cons (.int .i64 a8) (.cons (.int .i64 a9) (.cons (.int .i64 a10) (.cons (.int .i64 a11) (.cons (.int .i64 a12) (.cons (.int .i64 a13) (.cons (.int .i64 a14) .nl)))))))))))))),.int .i64 p],[.cells 88 [.row 1],.orow 92 (.pair (.pair (.int .i64) (.pair (.int .i64) (.pair (.int .i64) (.pair (.int .i64) (.pair (.int .i64) (.pair (.int .i64) (.pair (.pair (.int .i64) (.pair (.int .i64) (.pair (.int .i64) (.int .i64)))) (.pair (.int .i64) (.pair (.int .i64) (.pair (.int .i64) (.int .i64))))))))))) (.pair (.int .i64) (.pair (.int .i64) (.pair (.int .i64) (.ol 3 (.int .i64)))))) xs]=>some ⟨[p<xs.length],.int .i64 (blk (chkT xs.length (xs.getD p.toNat zNd).1.2.1 a1 a2 a3 a4 a5 a6 a7 a8 a9 a10 a11 a12 a13 a14 p)),[none,none],[]⟩
 | _,_=>none
set_option maxHeartbeats 2000000 in
theorem f35_run (R:AV→List Ob→Prop) (a1 a2 a3 a4 a5 a6 a7 a8 a9 a10 a11 a12 a13 a14 p:Int) (xs:List TNo.den):fnB tabN eG0 Tryz.f35 (bodyOf Tryz.f35) [.ptr 0 0,.agg (.cons (.int .i64 a1) (.cons (.int .i64 a2) (.cons (.int .i64 a3) (.cons (.int .i64 a4) (.cons (.int .i64 a5) (.cons (.int .i64 a6) (.cons (.int .i64 a7) (.cons (.int .i64 a8) (.cons (.int .i64 a9) (.cons (.int .i64 a10) (.cons (.int .i64 a11) (.cons (.int .i64 a12) (.cons (.int .i64 a13) (.cons (.int .i64 a14) .nl)))))))))))))),.int .i64 p] [.cells 88 [.row 1],.orow 92 TNo xs] R=(bif (↑xs.length:Int)==65536 then R (AV.int .i64 3) [Ob.cells 88 [AV.row 1],Ob.orow 92 (TB.pair (KI.pair (KI.pair (KI.pair (Ty.ol 3 KI))))) xs] else bif blk (chkB a1 a2 a3 a4 a5 a6 a7 a8 a9 a10 a11 a12 a13 a14) != 0 then R (AV.int .i64 (blk (chkB a1 a2 a3 a4 a5 a6 a7 a8 a9 a10 a11 a12 a13 a14))) [Ob.cells 88 [AV.row 1],Ob.orow 92 (TB.pair (KI.pair (KI.pair (KI.pair (Ty.ol 3 KI))))) xs] else bif (↑xs.length:Int)==0 then bif a1==0 then bif a2==3 then bif decide (a5≥0) then bif a7==0&&(a8==0&&(a9==0&&(a10==0&&true))) then bif !a4==0 then R (AV.int .i64 12) [Ob.cells 88 [AV.row 1],Ob.orow 92 (TB.pair (KI.pair (KI.pair (KI.pair (Ty.ol 3 KI))))) xs] else R (AV.int .i64 0) [Ob.cells 88 [AV.row 1],Ob.orow 92 (TB.pair (KI.pair (KI.pair (KI.pair (Ty.ol 3 KI))))) xs] else R (AV.int .i64 12) [Ob.cells 88 [AV.row 1],Ob.orow 92 (TB.pair (KI.pair (KI.pair (KI.pair (Ty.ol 3 KI))))) xs] else R (AV.int .i64 12) [Ob.cells 88 [AV.row 1],Ob.orow 92 (TB.pair (KI.pair (KI.pair (KI.pair (Ty.ol 3 KI))))) xs] else R (AV.int .i64 12) [Ob.cells 88 [AV.row 1],Ob.orow 92 (TB.pair (KI.pair (KI.pair (KI.pair (Ty.ol 3 KI))))) xs] else R (AV.int .i64 12) [Ob.cells 88 [AV.row 1],Ob.orow 92 (TB.pair (KI.pair (KI.pair (KI.pair (Ty.ol 3 KI))))) xs] else bif decide (p≥0) then 0≤p∧p<(↑xs.length:Int)∧bif !blk (fitsB (xs.getD p.toNat ((0,0,0,0,0,0,(0,0,0,0),0,0,0,0),0,0,0,[])).fst.snd.fst a2) then R (AV.int .i64 12) [Ob.cells 88 [AV.row 1],Ob.orow 92 (TB.pair (KI.pair (KI.pair (KI.pair (Ty.ol 3 KI))))) xs] else R (AV.int .i64 0) [Ob.cells 88 [AV.row 1],Ob.orow 92 (TB.pair (KI.pair (KI.pair (KI.pair (Ty.ol 3 KI))))) xs] else R (AV.int .i64 12) [Ob.cells 88 [AV.row 1],Ob.orow 92 (TB.pair (KI.pair (KI.pair (KI.pair (Ty.ol 3 KI))))) xs]):=by kernel_rfl
theorem ok35:ConOk2 Tryz.prog (35,con35):=by
 intro args obs t h hp
 change con35 args obs=some t at h
 unfold con35 at h
 split at h
 · rename_i a1 a2 a3 a4 a5 a6 a7 a8 a9 a10 a11 a12 a13 a14 p xs
   change List TNo.den at xs
   cases h
   refine fn_ok2 envG0 tabN_ok mixed Tryz.func35 (by kernel_rfl) (by kernel_rfl) ?_
   rw[f35_run]
   try dsimp only
   have hx:=hp (p<xs.length) (by simp)
   rw[blk_eq,blk_eq,blk_eq]
   unfold chkT
   refine cond_split (fun h => ?_) (fun h => ?_)
   · rw[h];exact⟨rfl,rfl⟩
   rw[h]
   refine cond_split (fun h => ?_) (fun h => ?_)
   · rw[h];exact⟨rfl,rfl⟩
   rw[h]
   refine cond_split (fun h => ?_) (fun h => ?_)
   · rw[h]
     exact root_all _ _ _ _ _ _ _ rfl
   rw[h]
   simp only[cond_false]
   refine cond_split (fun h1 => ?_) (fun h1 => ?_)
   · have h2:p≥0:=of_decide_eq_true h1
     rw[h1]
     refine⟨h2,hx,?_⟩
     refine cond_split (fun h3 => ?_) (fun h3 => ?_)
     · rw[show fitsB _ a2=false from by simpa using h3];exact⟨rfl,rfl⟩
     · rw[show fitsB _ a2=true from by simpa using h3];exact⟨rfl,rfl⟩
   · rw[h1]
     exact⟨rfl,rfl⟩
 · cases h
def consG1:Cons:=consG0
def twosG1:Cons2:=(36,con36)::(35,con35)::twosG0
def pansG1:Cons3:=pansG0
def itersG1:Cons4:=itersG0
abbrev eG1:Env:=envOf4 consG1 twosG1 pansG1 itersG1
theorem allconsG1:∀c∈consG1,ConOk Tryz.prog c:=allconsG0
theorem alltwosG1:∀c∈twosG1,ConOk2 Tryz.prog c:=all_cons ok36 (all_cons ok35 alltwosG0)
theorem allpansG1:∀c∈pansG1,ConOk3 Tryz.prog c:=allpansG0
theorem allitersG1:∀c∈itersG1,ConOk4 Tryz.prog c:=allitersG0
theorem envG1:EnvOk Tryz.prog eG1:=envOf4_ok _ _ _ _ allconsG1 alltwosG1 allpansG1 allitersG1
abbrev zBx:Bx:=(0,0,0,0,0,0,(0,0,0,0),0,0,0,0)
def parN (path:List Int) (d:Int):Int:=bif decide (d≥1) then bif decide (d≤(path.length:Int)) then path.getD (d-1).toNat 0 else -1 else -1
def chkN (xs:List Nd) (b:Bx) (p:Int):Int:=chkT xs.length (xs.getD p.toNat zNd).1.2.1 b.1 b.2.1 b.2.2.1 b.2.2.2.1 b.2.2.2.2.1 b.2.2.2.2.2.1 b.2.2.2.2.2.2.1.1 b.2.2.2.2.2.2.1.2.1 b.2.2.2.2.2.2.1.2.2.1 b.2.2.2.2.2.2.1.2.2.2 b.2.2.2.2.2.2.2.1 b.2.2.2.2.2.2.2.2.1 b.2.2.2.2.2.2.2.2.2.1 b.2.2.2.2.2.2.2.2.2.2 p
def addN (xs:List Nd) (b:Bx) (p:Int):List Nd:=xs++[(b,p,0,withinT xs.length (xs.getD p.toNat zNd).1.2.1 (xs.getD p.toNat zNd).2.2.2.1 p,[])]
def kidN (xs:List Nd) (p i:Int):List Nd:=bif decide (p≥0) then xs.set p.toNat ((xs.getD p.toNat zNd).1,(xs.getD p.toNat zNd).2.1,(xs.getD p.toNat zNd).2.2.1,(xs.getD p.toNat zNd).2.2.2.1,(xs.getD p.toNat zNd).2.2.2.2++[i]) else xs
def endN (e:Int) (xs:List Nd) (k:Int):List Nd:=xs.set k.toNat ((xs.getD k.toNat zNd).1,(xs.getD k.toNat zNd).2.1,e,(xs.getD k.toNat zNd).2.2.2)
def stepN (s:List Nd×List Int) (b:Bx) (i:Nat):List Nd×List Int:=
 ((s.2.take b.1.toNat++[(i:Int)]).foldl (endN ((i+1:Nat):Int)) (kidN (addN s.1 b (parN s.2 b.1)) (parN s.2 b.1) i),s.2.take b.1.toNat++[(i:Int)])
def buildN:List Bx→Nat→List Nd×List Int→Option (List Nd)
 | [],_,s=>some s.1
 | b::r,i,s=>bif chkN s.1 b (parN s.2 b.1) != 0 then none else buildN r (i+1) (stepN s b i)
structure InvN (k:Nat) (s:List Nd×List Int):Prop where
 len:s.1.length=k
 path:s.2.length≤k
 el:∀x∈s.2,0≤x∧x<k
 kid:∀x∈s.1,x.2.2.2.2.length≤k
theorem kidN_len (xs:List Nd) (p i:Int):(kidN xs p i).length=xs.length:=by
 unfold kidN
 cases decide (p≥0)<;>simp
theorem endN_len (e:Int) (xs:List Nd) (k:Int):(endN e xs k).length=xs.length:=by simp[endN]
theorem ends_len (e:Int):∀(l:List Int) (xs:List Nd),(l.foldl (endN e) xs).length=xs.length
 | [],_=>rfl
 | k::l,xs=>by rw[List.foldl_cons,ends_len e l,endN_len]
theorem getD_mem {α:Type} {xs:List α} {d:α} {i:Nat} (h:i<xs.length):xs.getD i d∈xs:=by
 rw[getD_nat' _ _ _ h]
 exact List.getElem_mem h
theorem kidN_kid {xs:List Nd} {p i:Int} {m:Nat} (hp:p<xs.length) (h:∀x∈xs,x.2.2.2.2.length≤m):∀x∈kidN xs p i,x.2.2.2.2.length≤m+1:=by
 unfold kidN
 cases hd:decide (p≥0) with
 | false=>exact fun x hx=>Nat.le_succ_of_le (h x hx)
 | true=>
  have hd:=of_decide_eq_true hd
  intro x hx
  rw[cond_true] at hx
  rcases List.mem_or_eq_of_mem_set hx with hx | rfl
  · exact Nat.le_succ_of_le (h x hx)
  · simp only[List.length_append,List.length_singleton]
    exact Nat.succ_le_succ (h _ (getD_mem (by omega)))
theorem endN_kid {e:Int} {xs:List Nd} {k:Int} {m:Nat} (h:∀x∈xs,x.2.2.2.2.length≤m):∀x∈endN e xs k,x.2.2.2.2.length≤m:=by
 intro x hx
 rcases List.mem_or_eq_of_mem_set hx with hx | rfl
 · exact h x hx
 · show (xs.getD k.toNat zNd).2.2.2.2.length≤m
   by_cases hk:k.toNat<xs.length
   · exact h _ (getD_mem hk)
   · have:(xs.getD k.toNat zNd)=zNd:=by simp[List.getD,List.getElem?_eq_none (by omega:xs.length≤k.toNat)]
     rw[this]
     exact Nat.zero_le _
theorem ends_kid {e:Int} {m:Nat}:∀(l:List Int) (xs:List Nd),(∀x∈xs,x.2.2.2.2.length≤m)→∀x∈l.foldl (endN e) xs,x.2.2.2.2.length≤m
 | [],_,h=>h
 | _::l,xs,h=>ends_kid l _ (endN_kid h)
theorem parN_lt {k:Nat} {s:List Nd×List Int} (h:InvN k s) (d:Int):parN s.2 d<s.1.length∧(parN s.2 d≥0→1≤d∧d≤s.2.length)∧(d≥1→d≤s.2.length→parN s.2 d=s.2.getD (d-1).toNat 0) ∧ -1≤parN s.2 d:=by
 have hl:=h.len
 unfold parN
 by_cases h1:d≥1
 · rw[decide_eq_true h1,cond_true]
   by_cases h2:d≤(s.2.length:Int)
   · rw[decide_eq_true h2,cond_true]
     have:=h.el _ (getD_mem (xs:=s.2) (d:=0) (i:=(d-1).toNat) (by omega))
     exact⟨by omega,fun _=>⟨h1,h2⟩,fun _ _=>rfl,by omega⟩
   · rw[decide_eq_false h2,cond_false]
     exact⟨by omega,fun h=>by omega,fun _ h=>absurd h h2,by omega⟩
 · rw[decide_eq_false h1,cond_false]
   exact⟨by omega,fun h=>by omega,fun h=>absurd h h1,by omega⟩
theorem par_split {P:Int→Prop} {o1:List Int} {d:Int} (hmax:o1.length≤65536) (h:P (parN o1 d)):bif decide (d≥1) then bif decide (d≤(o1.length:Int)) then 0≤IntKind.wrap .i64 (d-1)∧IntKind.wrap .i64 (d-1)<(o1.length:Int)∧P (o1.getD (IntKind.wrap .i64 (d-1)).toNat 0) else P (-1) else P (-1):=by
 unfold parN at h
 refine dec_split (fun h1 => ?_) (fun h1 => ?_)
 · rw[decide_eq_true h1,cond_true] at h
   refine dec_split (fun h2 => ?_) (fun h2 => ?_)
   · rw[decide_eq_true h2,cond_true] at h
     rw[wrap_id _ (by omega)]
     exact⟨by omega,by omega,h⟩
   · rw[decide_eq_false h2,cond_false] at h
     exact h
 · rw[decide_eq_false h1,cond_false] at h
   exact h
theorem chk_depth {k:Nat} {s:List Nd×List Int} (h:InvN k s) {b:Bx} (hc:chkN s.1 b (parN s.2 b.1)=0):0≤b.1∧b.1≤s.2.length∧k≠65536:=by
 unfold chkN chkT at hc
 have hl:=h.len
 rw[hl] at hc
 cases h1:((k:Int)==65536) with
 | true=>rw[h1,cond_true] at hc;cases hc
 | false=>
  have h1':k≠65536:=by simpa using fun e:k=65536=>by rw[e] at h1;simp at h1
  rw[h1,cond_false] at hc
  generalize chkB _ _ _ _ _ _ _ _ _ _ _ _ _ _=c at hc
  cases h2:(c != 0) with
  | true=>rw[h2,cond_true] at hc;rw[hc] at h2;simp at h2
  | false=>
   rw[h2,cond_false] at hc
   cases h3:((k:Int)==0) with
   | true=>
    rw[h3,cond_true] at hc
    cases h4:rootB b.1 b.2.1 b.2.2.2.1 b.2.2.2.2.1 b.2.2.2.2.2.2.1.1 b.2.2.2.2.2.2.1.2.1 b.2.2.2.2.2.2.1.2.2.1 b.2.2.2.2.2.2.1.2.2.2 with
    | false=>rw[h4] at hc;cases hc
    | true=>
     have:b.1=0:=by
      unfold rootB at h4
      simp only[Bool.and_eq_true,beq_iff_eq] at h4
      exact h4.1
     exact⟨by omega,by omega,h1'⟩
   | false=>
    rw[h3,cond_false] at hc
    cases h4:decide (parN s.2 b.1≥0) with
    | false=>rw[h4] at hc;cases hc
    | true=>
     have:=(parN_lt h b.1).2.1 (of_decide_eq_true h4)
     exact⟨by omega,this.2,h1'⟩
theorem invN_step {k:Nat} {s:List Nd×List Int} (h:InvN k s) {b:Bx} (hc:chkN s.1 b (parN s.2 b.1)=0):InvN (k+1) (stepN s b k):=by
 obtain⟨h1,h2,_⟩:=chk_depth h hc
 have hl:=h.len
 have hp:=(parN_lt h b.1).1
 refine⟨?_,?_,?_,?_⟩
 · simp only[stepN,ends_len,kidN_len,addN,List.length_append,List.length_singleton,hl]
 · simp only[stepN,List.length_append,List.length_take,List.length_singleton]
   have:=h.path
   omega
 · intro x hx
   simp only[stepN,List.mem_append,List.mem_singleton] at hx
   rcases hx with hx | rfl
   · have:=h.el x (List.mem_of_mem_take hx);omega
   · omega
 · simp only[stepN]
   refine ends_kid _ _ (kidN_kid (by simp only[addN,List.length_append,List.length_singleton];omega) ?_)
   intro x hx
   simp only[addN,List.mem_append,List.mem_singleton] at hx
   rcases hx with hx | rfl
   · exact h.kid x hx
   · simp
theorem build_step {l:List Bx} {k:Nat} {s:List Nd×List Int} (hk:k<l.length) (h:(buildN (l.drop k) k s).isSome=true):chkN s.1 (l.getD (k:Int).toNat zBx) (parN s.2 (l.getD (k:Int).toNat zBx).1)=0∧buildN (l.drop k) k s=buildN (l.drop (k+1)) (k+1) (stepN s (l.getD (k:Int).toNat zBx) k):=by
 rw[getD_nat l zBx k hk]
 rw[List.drop_eq_getElem_cons hk] at h ⊢
 simp only[buildN] at h ⊢
 cases hc:(chkN s.1 l[k] (parN s.2 l[k].1) != 0) with
 | true=>rw[hc] at h;cases h
 | false=>exact⟨by simpa using hc,rfl⟩
theorem kid_split {Q:List Nd→Prop} {xs:List Nd} {p i:Int} (hp:p<xs.length) (hk:∀x∈xs,x.2.2.2.2.length≤65536) (h:Q (kidN xs p i)) :
 bif decide (p≥0) then 0≤p∧p<(xs.length:Int)∧((xs.getD p.toNat zNd).2.2.2.2.length+1)*8≤140737488355328∧0≤p ∧
  p<((xs.set p.toNat ((xs.getD p.toNat zNd).1,(xs.getD p.toNat zNd).2.1,(xs.getD p.toNat zNd).2.2.1,(xs.getD p.toNat zNd).2.2.2.1,[])).length:Int)∧p=p ∧
  Q ((xs.set p.toNat ((xs.getD p.toNat zNd).1,(xs.getD p.toNat zNd).2.1,(xs.getD p.toNat zNd).2.2.1,(xs.getD p.toNat zNd).2.2.2.1,[])).set p.toNat
   (((xs.set p.toNat ((xs.getD p.toNat zNd).1,(xs.getD p.toNat zNd).2.1,(xs.getD p.toNat zNd).2.2.1,(xs.getD p.toNat zNd).2.2.2.1,[])).getD p.toNat zNd).1,
     ((xs.set p.toNat ((xs.getD p.toNat zNd).1,(xs.getD p.toNat zNd).2.1,(xs.getD p.toNat zNd).2.2.1,(xs.getD p.toNat zNd).2.2.2.1,[])).getD p.toNat zNd).2.1,
     ((xs.set p.toNat ((xs.getD p.toNat zNd).1,(xs.getD p.toNat zNd).2.1,(xs.getD p.toNat zNd).2.2.1,(xs.getD p.toNat zNd).2.2.2.1,[])).getD p.toNat zNd).2.2.1,
     ((xs.set p.toNat ((xs.getD p.toNat zNd).1,(xs.getD p.toNat zNd).2.1,(xs.getD p.toNat zNd).2.2.1,(xs.getD p.toNat zNd).2.2.2.1,[])).getD p.toNat zNd).2.2.2.1,
     (xs.getD p.toNat zNd).2.2.2.2++[i])) else Q xs:=by
 unfold kidN at h
 refine dec_split (fun h0 => ?_) (fun h0 => ?_)
 · rw[decide_eq_true h0,cond_true] at h
   have hlt:p.toNat<xs.length:=by omega
   have hb:=hk _ (getD_mem (d:=zNd) hlt)
   refine⟨h0,hp,by omega,h0,by rw[List.length_set];exact hp,rfl,?_⟩
   rw[List.set_set,getD_nat' _ _ _ (by rw[List.length_set];exact hlt),List.getElem_set_self]
   exact h
 · rw[decide_eq_false h0,cond_false] at h
   exact h
theorem frx_TNo (xs:List TNo.den):xs.map (frx TNo)=(xs:List Nd):=by
 have e:frx TNo=fun x=>x:=rfl
 rw[e]
 exact List.map_id' xs
end
end Go.Proofs.YtkpjcmiijlpcaaaGreat.W
set_option linter.unusedVariables false
set_option linter.unusedSimpArgs false
namespace Go.Proofs.YtkpjcmiijlpcaaaGreat.W
open Go Go.Proofs Go.Proofs.YtkpjcmiijlpcaaaGreat.Aw
noncomputable section
def ndAt (xs:List TN.den) (i:Int):Nd:=bif (bif !decide (i<0) then decide (i≥(xs.length:Int)) else true) then (zBx,-1,-1,-1,[]) else xs.getD i.toNat zNd
def consH0:Cons:=[]
def twosH0:Cons2:=[]
def pansH0:Cons3:=[]
def itersH0:Cons4:=[]
abbrev eH0:Env:=envOf4 consH0 twosH0 pansH0 itersH0
theorem allconsH0:∀c∈consH0,ConOk Tryz.prog c:=all_nil
theorem alltwosH0:∀c∈twosH0,ConOk2 Tryz.prog c:=all_nil
theorem allpansH0:∀c∈pansH0,ConOk3 Tryz.prog c:=all_nil
theorem allitersH0:∀c∈itersH0,ConOk4 Tryz.prog c:=all_nil
theorem envH0:EnvOk Tryz.prog eH0:=envOf4_ok _ _ _ _ allconsH0 alltwosH0 allpansH0 allitersH0
def con12:List AV→Option Tells
 | [.lptr 88 (.list 92 (.pair (.pair (.int .i64) (.pair (.int .i64) (.pair (.int .i64) (.pair (.int .i64) (.pair (.int .i64) (.pair (.int .i64) (.pair (.pair (.int .i64) (.pair (.int .i64) (.pair (.int .i64) (.int .i64)))) (.pair (.int .i64) (.pair (.int .i64) (.pair (.int .i64) (.int .i64))))))))))) (.pair (.int .i64) (.pair (.int .i64) (.pair (.int .i64) (.list 3 (.int .i64))))))) [xs] 0 0]=>some ⟨[],AV.int .i64 (↑(List.length ([xs].getD 0 [])):Int),[]⟩
 | _=>none
theorem f12_run (R:AV→List Ob→Prop) (xs:List TN.den):fnA tab eH0 Tryz.f12 (bodyOf Tryz.f12) [.lptr 88 (.list 92 TN) [xs] 0 0] R=(R (AV.int .i64 (↑(List.length ([xs].getD 0 [])):Int)) []):=by kernel_rfl
theorem ok12:ConOk Tryz.prog (12,con12):=by
 intro args t h hp
 simp only[con12] at h
 split at h
 · cases h
   refine fn_ok envH0 tab_ok mixed Tryz.func12 (by kernel_rfl) (by kernel_rfl) ?_
   rw[f12_run]
   exact⟨rfl,rfl⟩
 · cases h
def con37:List AV→Option Tells
 | [.lptr 88 (.list 92 (.pair (.pair (.int .i64) (.pair (.int .i64) (.pair (.int .i64) (.pair (.int .i64) (.pair (.int .i64) (.pair (.int .i64) (.pair (.pair (.int .i64) (.pair (.int .i64) (.pair (.int .i64) (.int .i64)))) (.pair (.int .i64) (.pair (.int .i64) (.pair (.int .i64) (.int .i64))))))))))) (.pair (.int .i64) (.pair (.int .i64) (.pair (.int .i64) (.list 3 (.int .i64))))))) [xs] 0 0,.int .i64 i]=>some ⟨[],.agg (.cons (.int .i64 ((ndAt xs i).1.1)) (.cons (.int .i64 ((ndAt xs i).1.2.1)) (.cons (.int .i64 ((ndAt xs i).1.2.2.1)) (.cons (.int .i64 ((ndAt xs i).1.2.2.2.1)) (.cons (.int .i64 ((ndAt xs i).1.2.2.2.2.1)) (.cons (.int .i64 ((ndAt xs i).1.2.2.2.2.2.1)) (.cons (.int .i64 ((ndAt xs i).1.2.2.2.2.2.2.1.1)) (.cons (.int .i64 ((ndAt xs i).1.2.2.2.2.2.2.1.2.1)) (.cons (.int .i64 ((ndAt xs i).1.2.2.2.2.2.2.1.2.2.1)) (.cons (.int .i64 ((ndAt xs i).1.2.2.2.2.2.2.1.2.2.2)) (.cons (.int .i64 ((ndAt xs i).1.2.2.2.2.2.2.2.1)) (.cons (.int .i64 ((ndAt xs i).1.2.2.2.2.2.2.2.2.1)) (.cons (.int .i64 ((ndAt xs i).1.2.2.2.2.2.2.2.2.2.1)) (.cons (.int .i64 ((ndAt xs i).1.2.2.2.2.2.2.2.2.2.2)) (.cons (.int .i64 ((ndAt xs i).2.1)) (.cons (.int .i64 ((ndAt xs i).2.2.1)) (.cons (.int .i64 ((ndAt xs i).2.2.2.1)) (.cons (.list 3 (.int .i64) (ndAt xs i).2.2.2.2) .nl)))))))))))))))))),[]⟩
 | _=>none
set_option maxHeartbeats 2000000 in
theorem f37_run (R:AV→List Ob→Prop) (xs:List TN.den) (i:Int):fnA tab eH0 Tryz.f37 (bodyOf Tryz.f37) [.lptr 88 (.list 92 TN) [xs] 0 0,.int .i64 i] R=(bif !decide (i<0) then bif decide (i≥(↑(List.length ([xs].getD 0 [])):Int)) then R ((AV.int .i64 0).cons ((AV.int .i64 0).cons ((AV.int .i64 0).cons ((AV.int .i64 0).cons ((AV.int .i64 0).cons ((AV.int .i64 0).cons ((AV.int .i64 0).cons ((AV.int .i64 0).cons ((AV.int .i64 0).cons ((AV.int .i64 0).cons ((AV.int .i64 0).cons ((AV.int .i64 0).cons ((AV.int .i64 0).cons ((AV.int .i64 0).cons ((AV.int .i64 (-1)).cons ((AV.int .i64 (-1)).cons ((AV.int .i64 (-1)).cons ((AV.nils 3 KI).cons AV.nl)))))))))))))))))).agg [] else 0≤i∧i<(↑(List.length ([xs].getD 0 [])):Int)∧R ((AV.int .i64 (List.getD ([xs].getD 0 []) i.toNat ((0,0,0,0,0,0,(0,0,0,0),0,0,0,0),0,0,0,[])).fst.fst).cons ((AV.int .i64 (List.getD ([xs].getD 0 []) i.toNat ((0,0,0,0,0,0,(0,0,0,0),0,0,0,0),0,0,0,[])).fst.snd.fst).cons ((AV.int .i64 (List.getD ([xs].getD 0 []) i.toNat ((0,0,0,0,0,0,(0,0,0,0),0,0,0,0),0,0,0,[])).fst.snd.snd.fst).cons ((AV.int .i64 (List.getD ([xs].getD 0 []) i.toNat ((0,0,0,0,0,0,(0,0,0,0),0,0,0,0),0,0,0,[])).fst.snd.snd.snd.fst).cons ((AV.int .i64 (List.getD ([xs].getD 0 []) i.toNat ((0,0,0,0,0,0,(0,0,0,0),0,0,0,0),0,0,0,[])).fst.snd.snd.snd.snd.fst).cons ((AV.int .i64 (List.getD ([xs].getD 0 []) i.toNat ((0,0,0,0,0,0,(0,0,0,0),0,0,0,0),0,0,0,[])).fst.snd.snd.snd.snd.snd.fst).cons ((AV.int .i64 (List.getD ([xs].getD 0 []) i.toNat ((0,0,0,0,0,0,(0,0,0,0),0,0,0,0),0,0,0,[])).fst.snd.snd.snd.snd.snd.snd.fst.fst).cons ((AV.int .i64 (List.getD ([xs].getD 0 []) i.toNat ((0,0,0,0,0,0,(0,0,0,0),0,0,0,0),0,0,0,[])).fst.snd.snd.snd.snd.snd.snd.fst.snd.fst).cons ((AV.int .i64 (List.getD ([xs].getD 0 []) i.toNat ((0,0,0,0,0,0,(0,0,0,0),0,0,0,0),0,0,0,[])).fst.snd.snd.snd.snd.snd.snd.fst.snd.snd.fst).cons ((AV.int .i64 (List.getD ([xs].getD 0 []) i.toNat ((0,0,0,0,0,0,(0,0,0,0),0,0,0,0),0,0,0,[])).fst.snd.snd.snd.snd.snd.snd.fst.snd.snd.snd).cons ((AV.int .i64 (List.getD ([xs].getD 0 []) i.toNat ((0,0,0,0,0,0,(0,0,0,0),0,0,0,0),0,0,0,[])).fst.snd.snd.snd.snd.snd.snd.snd.fst).cons ((AV.int .i64 (List.getD ([xs].getD 0 []) i.toNat ((0,0,0,0,0,0,(0,0,0,0),0,0,0,0),0,0,0,[])).fst.snd.snd.snd.snd.snd.snd.snd.snd.fst).cons ((AV.int .i64 (List.getD ([xs].getD 0 []) i.toNat ((0,0,0,0,0,0,(0,0,0,0),0,0,0,0),0,0,0,[])).fst.snd.snd.snd.snd.snd.snd.snd.snd.snd.fst).cons ((AV.int .i64 (List.getD ([xs].getD 0 []) i.toNat ((0,0,0,0,0,0,(0,0,0,0),0,0,0,0),0,0,0,[])).fst.snd.snd.snd.snd.snd.snd.snd.snd.snd.snd).cons ((AV.int .i64 (List.getD ([xs].getD 0 []) i.toNat ((0,0,0,0,0,0,(0,0,0,0),0,0,0,0),0,0,0,[])).snd.fst).cons ((AV.int .i64 (List.getD ([xs].getD 0 []) i.toNat ((0,0,0,0,0,0,(0,0,0,0),0,0,0,0),0,0,0,[])).snd.snd.fst).cons ((AV.int .i64 (List.getD ([xs].getD 0 []) i.toNat ((0,0,0,0,0,0,(0,0,0,0),0,0,0,0),0,0,0,[])).snd.snd.snd.fst).cons ((AV.list 3 KI (List.getD ([xs].getD 0 []) i.toNat ((0,0,0,0,0,0,(0,0,0,0),0,0,0,0),0,0,0,[])).snd.snd.snd.snd).cons AV.nl)))))))))))))))))).agg [] else R ((AV.int .i64 0).cons ((AV.int .i64 0).cons ((AV.int .i64 0).cons ((AV.int .i64 0).cons ((AV.int .i64 0).cons ((AV.int .i64 0).cons ((AV.int .i64 0).cons ((AV.int .i64 0).cons ((AV.int .i64 0).cons ((AV.int .i64 0).cons ((AV.int .i64 0).cons ((AV.int .i64 0).cons ((AV.int .i64 0).cons ((AV.int .i64 0).cons ((AV.int .i64 (-1)).cons ((AV.int .i64 (-1)).cons ((AV.int .i64 (-1)).cons ((AV.nils 3 KI).cons AV.nl)))))))))))))))))).agg []):=by kernel_rfl
theorem ok37:ConOk Tryz.prog (37,con37):=by
 intro args t h hp
 change con37 args=some t at h
 unfold con37 at h
 split at h
 · rename_i xs i
   change List TN.den at xs
   cases h
   refine fn_okF envH0 tab_ok mixed Tryz.func37 (by kernel_rfl) (by kernel_rfl) ?_
   rw[f37_run]
   try dsimp only
   have hz:∀xs':List TN.den,[xs'].getD 0 []=xs':=fun _=>rfl
   refine cond_split (fun h0 => ?_) (fun h0 => ?_)
   · have h0':¬i<0:=by simpa using h0
     refine dec_split (fun h1 => ?_) (fun h1 => ?_)
     · have e:ndAt xs i=(zBx,-1,-1,-1,[]):=by
        unfold ndAt
        rw[h0,cond_true,show decide (i≥(xs.length:Int))=true from decide_eq_true h1]
        rfl
       rw[e]
       refine .agg _ _ ?_
       repeat' first | exact .nils _ _ | exact .nl | exact .keep _ rfl rfl | refine .cons _ _ _ _ ?_ ?_
     · have e:ndAt xs i=xs.getD i.toNat zNd:=by
        unfold ndAt
        rw[h0,cond_true,show decide (i≥(xs.length:Int))=false from decide_eq_false h1]
        rfl
       rw[e]
       refine⟨by omega,by change i<(xs.length:Int);change ¬i≥(xs.length:Int) at h1;omega,.agg _ _ ?_⟩
       repeat' first | exact .nl | exact .keep _ rfl rfl | refine .cons _ _ _ _ ?_ ?_
   · have e:ndAt xs i=(zBx,-1,-1,-1,[]):=by
      unfold ndAt
      rw[h0]
      rfl
     rw[e]
     refine .agg _ _ ?_
     repeat' first | exact .nils _ _ | exact .nl | exact .keep _ rfl rfl | refine .cons _ _ _ _ ?_ ?_
 · cases h
def consH1:Cons:=(37,con37)::(12,con12)::consH0
def twosH1:Cons2:=twosH0
def pansH1:Cons3:=pansH0
def itersH1:Cons4:=itersH0
abbrev eH1:Env:=envOf4 consH1 twosH1 pansH1 itersH1
theorem allconsH1:∀c∈consH1,ConOk Tryz.prog c:=all_cons ok37 (all_cons ok12 allconsH0)
theorem alltwosH1:∀c∈twosH1,ConOk2 Tryz.prog c:=alltwosH0
theorem allpansH1:∀c∈pansH1,ConOk3 Tryz.prog c:=allpansH0
theorem allitersH1:∀c∈itersH1,ConOk4 Tryz.prog c:=allitersH0
theorem envH1:EnvOk Tryz.prog eH1:=envOf4_ok _ _ _ _ allconsH1 alltwosH1 allpansH1 allitersH1
def con13:List AV→Option Tells
 | [.lptr 88 (.list 92 (.pair (.pair (.int .i64) (.pair (.int .i64) (.pair (.int .i64) (.pair (.int .i64) (.pair (.int .i64) (.pair (.int .i64) (.pair (.pair (.int .i64) (.pair (.int .i64) (.pair (.int .i64) (.int .i64)))) (.pair (.int .i64) (.pair (.int .i64) (.pair (.int .i64) (.int .i64))))))))))) (.pair (.int .i64) (.pair (.int .i64) (.pair (.int .i64) (.list 3 (.int .i64))))))) [xs] 0 0,.int .i64 i]=>some ⟨[],((AV.int .i64 (ndAt xs i).fst.fst).cons ((AV.int .i64 (ndAt xs i).fst.snd.fst).cons ((AV.int .i64 (ndAt xs i).fst.snd.snd.fst).cons ((AV.int .i64 (ndAt xs i).fst.snd.snd.snd.fst).cons ((AV.int .i64 (ndAt xs i).fst.snd.snd.snd.snd.fst).cons ((AV.int .i64 (ndAt xs i).fst.snd.snd.snd.snd.snd.fst).cons ((AV.int .i64 (ndAt xs i).fst.snd.snd.snd.snd.snd.snd.fst.fst).cons ((AV.int .i64 (ndAt xs i).fst.snd.snd.snd.snd.snd.snd.fst.snd.fst).cons ((AV.int .i64 (ndAt xs i).fst.snd.snd.snd.snd.snd.snd.fst.snd.snd.fst).cons ((AV.int .i64 (ndAt xs i).fst.snd.snd.snd.snd.snd.snd.fst.snd.snd.snd).cons ((AV.int .i64 (ndAt xs i).fst.snd.snd.snd.snd.snd.snd.snd.fst).cons ((AV.int .i64 (ndAt xs i).fst.snd.snd.snd.snd.snd.snd.snd.snd.fst).cons ((AV.int .i64 (ndAt xs i).fst.snd.snd.snd.snd.snd.snd.snd.snd.snd.fst).cons ((AV.int .i64 (ndAt xs i).fst.snd.snd.snd.snd.snd.snd.snd.snd.snd.snd).cons AV.nl)))))))))))))).agg,[]⟩
 | _=>none
theorem f13_run (R:AV→List Ob→Prop) (xs:List TN.den) (i:Int):fnA tab eH1 Tryz.f13 (bodyOf Tryz.f13) [.lptr 88 (.list 92 TN) [xs] 0 0,.int .i64 i] R=(R ((AV.int .i64 (ndAt xs i).fst.fst).cons ((AV.int .i64 (ndAt xs i).fst.snd.fst).cons ((AV.int .i64 (ndAt xs i).fst.snd.snd.fst).cons ((AV.int .i64 (ndAt xs i).fst.snd.snd.snd.fst).cons ((AV.int .i64 (ndAt xs i).fst.snd.snd.snd.snd.fst).cons ((AV.int .i64 (ndAt xs i).fst.snd.snd.snd.snd.snd.fst).cons ((AV.int .i64 (ndAt xs i).fst.snd.snd.snd.snd.snd.snd.fst.fst).cons ((AV.int .i64 (ndAt xs i).fst.snd.snd.snd.snd.snd.snd.fst.snd.fst).cons ((AV.int .i64 (ndAt xs i).fst.snd.snd.snd.snd.snd.snd.fst.snd.snd.fst).cons ((AV.int .i64 (ndAt xs i).fst.snd.snd.snd.snd.snd.snd.fst.snd.snd.snd).cons ((AV.int .i64 (ndAt xs i).fst.snd.snd.snd.snd.snd.snd.snd.fst).cons ((AV.int .i64 (ndAt xs i).fst.snd.snd.snd.snd.snd.snd.snd.snd.fst).cons ((AV.int .i64 (ndAt xs i).fst.snd.snd.snd.snd.snd.snd.snd.snd.snd.fst).cons ((AV.int .i64 (ndAt xs i).fst.snd.snd.snd.snd.snd.snd.snd.snd.snd.snd).cons AV.nl)))))))))))))).agg []):=by kernel_rfl
theorem ok13:ConOk Tryz.prog (13,con13):=by
 intro args t h hp
 simp only[con13] at h
 split at h
 · cases h
   refine fn_ok envH1 tab_ok mixed Tryz.func13 (by kernel_rfl) (by kernel_rfl) ?_
   rw[f13_run]
   exact⟨rfl,rfl⟩
 · cases h
def con39:List AV→Option Tells
 | [.lptr 88 (.list 92 (.pair (.pair (.int .i64) (.pair (.int .i64) (.pair (.int .i64) (.pair (.int .i64) (.pair (.int .i64) (.pair (.int .i64) (.pair (.pair (.int .i64) (.pair (.int .i64) (.pair (.int .i64) (.int .i64)))) (.pair (.int .i64) (.pair (.int .i64) (.pair (.int .i64) (.int .i64))))))))))) (.pair (.int .i64) (.pair (.int .i64) (.pair (.int .i64) (.list 3 (.int .i64))))))) [xs] 0 0,.int .i64 i]=>some ⟨[],AV.int .i64 (ndAt xs i).snd.fst,[]⟩
 | _=>none
theorem f39_run (R:AV→List Ob→Prop) (xs:List TN.den) (i:Int):fnA tab eH1 Tryz.f39 (bodyOf Tryz.f39) [.lptr 88 (.list 92 TN) [xs] 0 0,.int .i64 i] R=(R (AV.int .i64 (ndAt xs i).snd.fst) []):=by kernel_rfl
theorem ok39:ConOk Tryz.prog (39,con39):=by
 intro args t h hp
 simp only[con39] at h
 split at h
 · cases h
   refine fn_ok envH1 tab_ok mixed Tryz.func39 (by kernel_rfl) (by kernel_rfl) ?_
   rw[f39_run]
   exact⟨rfl,rfl⟩
 · cases h
def con16:List AV→Option Tells
 | [.lptr 88 (.list 92 (.pair (.pair (.int .i64) (.pair (.int .i64) (.pair (.int .i64) (.pair (.int .i64) (.pair (.int .i64) (.pair (.int .i64) (.pair (.pair (.int .i64) (.pair (.int .i64) (.pair (.int .i64) (.int .i64)))) (.pair (.int .i64) (.pair (.int .i64) (.pair (.int .i64) (.int .i64))))))))))) (.pair (.int .i64) (.pair (.int .i64) (.pair (.int .i64) (.list 3 (.int .i64))))))) [xs] 0 0,.int .i64 i]=>some ⟨[],AV.int .i64 (ndAt xs i).snd.snd.snd.fst,[]⟩
 | _=>none
theorem f16_run (R:AV→List Ob→Prop) (xs:List TN.den) (i:Int):fnA tab eH1 Tryz.f16 (bodyOf Tryz.f16) [.lptr 88 (.list 92 TN) [xs] 0 0,.int .i64 i] R=(R (AV.int .i64 (ndAt xs i).snd.snd.snd.fst) []):=by kernel_rfl
theorem ok16:ConOk Tryz.prog (16,con16):=by
 intro args t h hp
 simp only[con16] at h
 split at h
 · cases h
   refine fn_ok envH1 tab_ok mixed Tryz.func16 (by kernel_rfl) (by kernel_rfl) ?_
   rw[f16_run]
   exact⟨rfl,rfl⟩
 · cases h
def con65:List AV→Option Tells
 | [.list 3 (.int .i64) xs]=>some ⟨[xs.length≤65536],.list 3 (.int .i64) xs,[]⟩
 | _=>none
theorem f65_run (R:AV→List Ob→Prop) (xs:List (Ty.int .i64).den):fnA tab eH1 Tryz.f65 (bodyOf Tryz.f65) [.list 3 (.int .i64) xs] R=((xs=[]→R (AV.row 0) [Ob.row 3 KI []])∧(0+xs.length)*8≤140737488355328∧R (AV.row 0) [Ob.row 3 KI xs]):=by kernel_rfl
theorem ok65:ConOk Tryz.prog (65,con65):=by
 intro args t h hp
 change con65 args=some t at h
 unfold con65 at h
 split at h
 · rename_i xs
   change List (Ty.int .i64).den at xs
   cases h
   refine fn_okF envH1 tab_ok mixed Tryz.func65 (by kernel_rfl) (by kernel_rfl) ?_
   rw[f65_run]
   try dsimp only
   have hx:=hp (xs.length≤65536) (by simp)
   exact⟨fun e=>by rw[e];exact .row 0 _ _ _ rfl,by omega,.row 0 _ _ _ rfl⟩
 · cases h
def consH2:Cons:=(65,con65)::(13,con13)::(39,con39)::(16,con16)::consH1
def twosH2:Cons2:=twosH1
def pansH2:Cons3:=pansH1
def itersH2:Cons4:=itersH1
abbrev eH2:Env:=envOf4 consH2 twosH2 pansH2 itersH2
theorem allconsH2:∀c∈consH2,ConOk Tryz.prog c:=all_cons ok65 (all_cons ok13 (all_cons ok39 (all_cons ok16 allconsH1)))
theorem alltwosH2:∀c∈twosH2,ConOk2 Tryz.prog c:=alltwosH1
theorem allpansH2:∀c∈pansH2,ConOk3 Tryz.prog c:=allpansH1
theorem allitersH2:∀c∈itersH2,ConOk4 Tryz.prog c:=allitersH1
theorem envH2:EnvOk Tryz.prog eH2:=envOf4_ok _ _ _ _ allconsH2 alltwosH2 allpansH2 allitersH2
def con44:List AV→Option Tells
 | [.lptr 88 (.list 92 (.pair (.pair (.int .i64) (.pair (.int .i64) (.pair (.int .i64) (.pair (.int .i64) (.pair (.int .i64) (.pair (.int .i64) (.pair (.pair (.int .i64) (.pair (.int .i64) (.pair (.int .i64) (.int .i64)))) (.pair (.int .i64) (.pair (.int .i64) (.pair (.int .i64) (.int .i64))))))))))) (.pair (.int .i64) (.pair (.int .i64) (.pair (.int .i64) (.list 3 (.int .i64))))))) [xs] 0 0,.int .i64 i]=>some ⟨[(ndAt xs i).2.2.2.2.length≤65536],.list 3 (.int .i64) (ndAt xs i).2.2.2.2,[]⟩
 | _=>none
theorem f44_run (R:AV→List Ob→Prop) (xs:List TN.den) (i:Int):fnA tab eH2 Tryz.f44 (bodyOf Tryz.f44) [.lptr 88 (.list 92 TN) [xs] 0 0,.int .i64 i] R=((ndAt xs i).snd.snd.snd.snd.length≤65536∧R (AV.list 3 KI (ndAt xs i).snd.snd.snd.snd) []):=by kernel_rfl
theorem ok44:ConOk Tryz.prog (44,con44):=by
 intro args t h hp
 change con44 args=some t at h
 unfold con44 at h
 split at h
 · rename_i xs i
   change List TN.den at xs
   cases h
   refine fn_ok envH2 tab_ok mixed Tryz.func44 (by kernel_rfl) (by kernel_rfl) ?_
   rw[f44_run]
   try dsimp only
   have hx:=hp ((ndAt xs i).2.2.2.2.length≤65536) (by simp)
   exact⟨hx,rfl,rfl⟩
 · cases h
end
end Go.Proofs.YtkpjcmiijlpcaaaGreat.W
namespace Go.Proofs.YtkpjcmiijlpcaaaGreat.Aw
open Go
def mvF (k N j:Nat):Nat:=bif Nat.beq j k then N else j
def mvL (obs:List Ob) (k:Nat):List Ob:=(obs.map (Ob.reN (mvF k obs.length))).set k .dead++[(newsH obs k).reN (mvF k obs.length)]
def startM (fn:Func) (args:List AV) (obs:List Ob) (k:Nat):St:=⟨args.map (AV.reN (mvF k obs.length))++List.replicate (fn.ntmps-(args.map (AV.reN (mvF k obs.length))).length) .undef,mvL obs k,obs.length,0,false⟩
def fnM (T:Tab) (env:Env) (fn:Func) (c:Code) (args:List AV) (obs:List Ob) (k:Nat) (R:AV→List Ob→Prop):Prop:=
 codeA T env c (resTmps fn) (startM fn args obs k) (endA T fn R)
theorem mvF_eq (k N:Nat):mvF k N k=N:=by simp[mvF]
theorem mvF_ne {k N j:Nat} (h:j≠k):mvF k N j=j:=by
 have:Nat.beq j k=false:=by
  cases e:Nat.beq j k with
  | false=>rfl
  | true=>exact absurd (Nat.eq_of_beq_eq_true e) h
 simp[mvF,this]
theorem newsH_out {obs:List Ob} {j:Nat} (h:obs.length≤j):newsH obs j=.none:=by
 simp only[newsH,List.getD]
 rw[List.getElem?_eq_none h]
 rfl
theorem mvL_N {obs:List Ob} {k:Nat}:newsH (mvL obs k) obs.length=(newsH obs k).reN (mvF k obs.length):=by
 simp only[mvL,newsH,List.getD]
 rw[List.getElem?_append_right (by simp)]
 simp
theorem mvL_k {obs:List Ob} {k:Nat} (hk:k<obs.length):newsH (mvL obs k) k=.dead:=by
 simp only[mvL,newsH,List.getD]
 rw[List.getElem?_append_left (by simpa using hk),List.getElem?_set_self (by simpa using hk)]
 rfl
theorem mvL_j {obs:List Ob} {k j:Nat} (h:j<obs.length) (hj:j≠k):newsH (mvL obs k) j=(newsH obs j).reN (mvF k obs.length):=by
 simp only[mvL,newsH,List.getD]
 rw[List.getElem?_append_left (by simpa using h),List.getElem?_set_ne (fun e=>hj e.symm),List.getElem?_map,List.getElem?_eq_getElem h]
 rfl
theorem mvL_out {obs:List Ob} {k j:Nat} (h:obs.length<j):newsH (mvL obs k) j=.none:=newsH_out (by simp[mvL];omega)
theorem reN_live (f:Nat→Nat) (o:Ob):(o.reN f).live=o.live:=by cases o<;>rfl
theorem ObExt.reN' (c:Cr) (o:Ob) (f:Nat→Nat):ObExt c o c (o.reN f):=by
 cases o with
 | none=>trivial
 | dead=>rfl
 | cells e cs=>exact .inr ⟨rfl,_,rfl⟩
 | prow e cs=>exact .inr ⟨rfl,_,rfl,by simp⟩
 | mit m n seen cur=>exact .inr ⟨rfl,_,_,_,_,rfl⟩
 | row e t xs=>exact ObExt.refl _ _
 | map ag t es=>exact ObExt.refl _ _
 | orow e t xs=>exact ObExt.refl _ _
 | hrow e t xs i off=>exact ObExt.refl _ _
def mvC (β:Nat→Cr) (k N j:Nat):Cr:=if j=N then β k else β j
section
variable {M S0:Nat→Prop} {w0:World} {S:Nat→Prop} {β:Nat→Cr} {w:World}
theorem mv_hs {obs:List Ob} {k:Nat} (j:Nat) (hj:newsH obs j≠.none):newsH (mvL obs k) (mvF k obs.length j)=(newsH obs j).reN (mvF k obs.length)∧mvC β k obs.length (mvF k obs.length j)=β j:=by
 have hlt:j<obs.length:=by
  rcases Nat.lt_or_ge j obs.length with h | h
  · exact h
  · exact absurd (newsH_out h) hj
 by_cases e:j=k
 · subst e
   rw[mvF_eq]
   exact⟨mvL_N,by simp[mvC]⟩
 · rw[mvF_ne e]
   exact⟨mvL_j hlt e,by simp[mvC];intro h;omega⟩
theorem mv_back {obs:List Ob} {k:Nat} (hk:k<obs.length) (j:Nat) (hl:(newsH (mvL obs k) j).live=true):∃i,j=mvF k obs.length i∧(newsH obs i).live=true∧mvC β k obs.length j=β i∧newsH (mvL obs k) j=(newsH obs i).reN (mvF k obs.length):=by
 rcases Nat.lt_trichotomy j obs.length with h | h | h
 · by_cases e:j=k
   · subst e;rw[mvL_k hk] at hl;cases hl
   · rw[mvL_j h e,reN_live] at hl
     exact⟨j,(mvF_ne e).symm,hl,by simp[mvC];intro h';omega,mvL_j h e⟩
 · subst h
   rw[mvL_N,reN_live] at hl
   exact⟨k,(mvF_eq k _).symm,hl,by simp[mvC],mvL_N⟩
 · rw[mvL_out h] at hl;cases hl
theorem Rel.moved {obs:List Ob} {k:Nat} (h:Rel M S0 w0 S β (newsH obs) w) (hk:k<obs.length):Rel M S0 w0 S (mvC β k obs.length) (newsH (mvL obs k)) w:=by
 refine⟨h.fr,h.s0,h.sS,fun j g hl hg => ?_,fun j j' g hl hl' hg hg' => ?_,fun j => ?_⟩
 · obtain⟨i,_,h2,h3,_⟩:=mv_back (β:=β) hk j hl
   rw[h3] at hg
   exact h.own i g h2 hg
 · obtain⟨i,h1,h2,h3,_⟩:=mv_back (β:=β) hk j hl
   obtain⟨i',h1',h2',h3',_⟩:=mv_back (β:=β) hk j' hl'
   rw[h3] at hg
   rw[h3'] at hg'
   have:=h.dis i i' g h2 h2' hg hg'
   rw[h1,h1',this]
 · cases hl:(newsH (mvL obs k) j).live with
   | false=>exact ObR.idle hl
   | true=>
    obtain⟨i,h1,h2,h3,h4⟩:=mv_back (β:=β) hk j hl
    rw[h3,h4]
    exact ObR.reN (fun j hj=>mv_hs j hj) _ _ (h.ob i)
end
theorem fn_ok2M {P:Program} {T:Tab} {env:Env} (he:EnvOk P env) (hT:TabOk P T) (hm:P.follows .mixedOrders=true) {g:FuncId} {fn:Func} (hf:P.funcs[g]? = some fn) (hname:(fn.name == "runtime.NumGoroutine")=false) (hb:fn.body.isSome=true) {args:List AV} {obs:List Ob} {v:AV} {obs':List Ob} (k:Nat) (hk:k<obs.length)
 (h:fnM T env fn (bodyOf fn) args obs k fun v' o'=>v'=v∧o'=obs') (hy:env.ycnt=0∧env.isIt=false:=by exact⟨rfl,rfl⟩):ACalls2 P g args obs v obs':=by
 obtain⟨c,hc⟩:=Option.isSome_iff_exists.1 hb
 have e:bodyOf fn=c:=by unfold bodyOf;rw[hc];rfl
 rw[e] at h
 refine⟨⟨fn,hf,hname,by rw[hc];rfl⟩,fun S β w vs hrel hvs => ?_⟩
 refine (callsIn_wide (n:=0)).1 (callsIn_of_wp_marks (F:=Wd none) hf hc trivial ?_)
 have hrel2:=hrel.moved hk
 have hvs2:=VLs.reN (fun j hj=>mv_hs (β:=β) (k:=k) j hj) args vs hvs
 have hi:=start_inv (π:=⟨obs.length,β,newsH obs,false⟩) (fn:=fn) (n:=obs.length) (vs:=vs) hrel2 hvs2 (fun j hj=>by
  by_cases e:j=k
  · subst e;show ObExt _ _ _ (newsH (mvL obs j) j);rw[mvL_k hj];exact ObExt.dead' _ _ _
  · have hj:j<obs.length:=hj
    have e2:mvC β k obs.length j=β j:=by simp[mvC];intro h';omega
    show ObExt (β j) (newsH obs j) (mvC β k obs.length j) (newsH (mvL obs k) j)
    rw[mvL_j hj e,e2]
    exact ObExt.reN' _ _ _)
 exact code_sound hT hm c env he none (baseB _ _ _) ⟨obs.length,β,newsH obs,false⟩ (YieldOk.none hy) recs_none (fun h=>by cases h) (fun h=>by cases h) _ _ _ _ S (mvC β k obs.length) _ w ⟨_,_,_,⟨rfl,rfl,rfl⟩,hi⟩ rfl h (fun e s S' β' a' w' h1 h2 h3=>end_sound (RP:=fun _ _=>False) hT (fun v' news' S' β' w' u h1 h2 hp h3=>⟨u,rfl,S',β',by rw[←h3.2];exact h1,by rw[←h3.2,←h3.1];exact h2,by rw[←h3.2];exact hp⟩) (fun _ _ _ _ _ _ _ h=>h.elim) e s S' β' a' w' h1 h2 (endP_of h3))
def fnIM (T:Tab) (env:Env) (fn:Func) (c:Code) (args caps:List AV) (obs:List Ob) (k:Nat) (l cnt:Nat) (arg:Nat→List AV):Prop:=
 codeA T (env.it l cnt arg) c (resTmps fn) (startM fn (args++[.fn (.yield l) .nl .nl]++caps) obs k) (endI T fn cnt)
theorem mv_pin {β:Nat→Cr} {obs:List Ob} {k:Nat} (hk:k<obs.length) (j:Nat) (hj:j<obs.length):ObExt (β j) (newsH obs j) (mvC β k obs.length j) (newsH (mvL obs k) j):=by
 by_cases e:j=k
 · subst e;rw[mvL_k hj];exact ObExt.dead' _ _ _
 · have e2:mvC β k obs.length j=β j:=by simp[mvC];intro h';omega
   rw[mvL_j hj e,e2]
   exact ObExt.reN' _ _ _
section
variable {P:Program} {T:Tab} {env:Env} {M S0:Nat→Prop} {w0:World} {π:Pin} {S:Nat→Prop} {β:Nat→Cr} {H:Nat→Ob} {w:World} {a:Act} {sl:List AV}
theorem fn_iterM (he:EnvOk P env) (hT:TabOk P T) (hm:P.follows .mixedOrders=true) {g:FuncId} {fn:Func} {c:Code} (hf:P.funcs[g]? = some fn) (hname:(fn.name == "runtime.NumGoroutine")=false) (hb:fn.body=some c) {args caps:List AV} {obs:List Ob} {cnt:Nat} {arg:Nat→List AV} (k:Nat) (hk:k<obs.length)
 (h:∀l,fnIM T env fn c args caps obs k l cnt arg):AIter P g args caps obs cnt arg:=by
 refine⟨⟨fn,hf,hname,by rw[hb];rfl⟩,fun S β w vs cs l J X W hrel hvs hcs hJs hJr hJ0 hX hW => ?_⟩
 refine (callsIn_wide (n:=0)).1 (callsIn_of_wp_marks (F:=Wd none) hf hb trivial ?_)
 have hva:VLs S w β (newsH obs) (args++[.fn (.yield l) .nl .nl]++caps) (vs++[Value.func (.yield l) #[] #[]]++cs):=VLs.append _ _ _ _ (VLs.append _ _ _ _ hvs ⟨_,_,rfl,⟨[],[],rfl,rfl,rfl⟩,rfl⟩) hcs
 have hi:=start_inv (π:=⟨obs.length,β,newsH obs,true⟩) (fn:=fn) (n:=obs.length) (hrel.moved hk) (VLs.reN (fun j hj=>mv_hs (β:=β) (k:=k) j hj) _ _ hva) (mv_pin hk)
 let B:Bs:=fun i st M0 S0 w0=>∃X' W',J i st X' W' w0∧(∀b,X' b→b<w0.heap.size∧¬M0 b)∧(∀b,W' b→X' b∧¬S0 b)∧(∀b,W' b→W b∨w.heap.size≤b)∧Fr (fun b=>W b∨Mof β obs b) w w0∧(∀b,M0 b→Mof β obs b∨w.heap.size≤b)∧(∀b,S0 b→S b∨w.heap.size≤b)
 have he':EnvOk P (env.it l cnt arg):=⟨he.one,he.two,he.pan,he.iter⟩
 have hY1:Yield1 P (env.it l cnt arg) B ⟨obs.length,β,newsH obs,true⟩:=by
  rintro y M0 S0 w0 sl H S1 β1 a w1 us ⟨X',W',j1,j2,j3,j4,j5,j6,j7⟩ hi hlt hus hrefs
  have hj:=hJs _ _ _ _ _ w1 j1 hi.rel.fr.os hi.rel.fr.tape hi.rel.fr.output hi.rel.fr.size (fun g hg=>hi.rel.fr.block g (j2 g hg).1 (j2 g hg).2)
  have hz:=hi.rel.fr.size
  have hzw:=j5.size
  have hSW:∀b,S1 b→b<w1.heap.size∧¬W' b∧(S b∨w.heap.size≤b):=by
   intro b hb
   refine⟨(hi.rel.sS b hb).1,fun hw => ?_,?_⟩
   · rcases (hi.rel.sS b hb).2 with h | h
     · exact (j3 b hw).2 h
     · have:=(j2 b (j3 b hw).1).1;omega
   · rcases (hi.rel.sS b hb).2 with h | h
     · exact j7 b h
     · exact .inr (by omega)
  obtain⟨f,tmps,asg,bod,y1,y2⟩:=hJr y X' W' S1 w1 us hlt hj (by omega) (VLs.any _ _ hrefs hus) hSW
  refine⟨f,tmps,asg,bod,y1,y2.mono ?_⟩
  rintro e w2 ⟨b,X2,W2,rfl,g1,g2,g3,g4⟩
  have hz2:=g2.size
  have hno:∀b,ownB β1 H b→¬X' b:=by
   rintro b ⟨k,hl,hg⟩ hx
   rcases (hi.rel.own k b hl hg).1 with h | h
   · exact (j2 b hx).2 h
   · have:=(j2 b hx).1;omega
  obtain⟨r1,r2⟩:=hi.rel.rebase (w':=w2) hz2 (fun b hb=>g2.block b (hSW b hb).1 (hSW b hb).2.1) (fun b hb=>g2.block b (by obtain⟨k,hl,hg⟩:=hb;exact (hi.rel.own k b hl hg).2.1) (fun hw=>hno b hb (j3 b hw).1))
  refine⟨b,rfl,ownB β1 H,S1,w2,⟨X2,W2,g1,fun g hg=>⟨(g4 g hg).2,fun ho => ?_⟩,fun g hg=>⟨(g3 g hg).1,fun hs => ?_⟩,fun g hg => ?_,?_,fun g hg => ?_,fun g hg=>(hSW g hg).2.2⟩,⟨r1,hi.len,fun t=>VL.ext r2 _ _ (hi.sl t),⟨hi.nod.1,by rw[hi.nod.1 rfl];trivial⟩,hi.pin⟩⟩
  · rcases (g4 g hg).1 with h | h | h
    · exact hno g ho h
    · obtain⟨k,hl,hg⟩:=ho
      exact (hi.rel.own k g hl hg).2.2 h
    · obtain⟨k,hl,hg⟩:=ho
      have:=(hi.rel.own k g hl hg).2.1;omega
  · rcases (g3 g hg).2 with h | h
    · exact (hSW g hs).2.1 h
    · have:=(hSW g hs).1;omega
  · rcases (g3 g hg).2 with h | h
    · exact j4 g h
    · exact .inr (by omega)
  · refine⟨g2.os.trans (hi.rel.fr.os.trans j5.os),g2.tape.trans (hi.rel.fr.tape.trans j5.tape),g2.output.trans (hi.rel.fr.output.trans j5.output),by omega,fun b hb hn => ?_,Nat.le_trans j5.drawn (Nat.le_trans hi.rel.fr.drawn g2.drawn)⟩
    rw[g2.block b (by omega) (fun hw => ?_),hi.rel.fr.block b (by omega) (fun hm => ?_),j5.block b hb hn]
    · rcases j6 b hm with h | h
      · exact hn (.inr h)
      · omega
    · rcases j4 b hw with h | h
      · exact hn (.inl h)
      · omega
  · obtain⟨k,hl,hg'⟩:=hg
    rcases (hi.rel.own k g hl hg').1 with h | h
    · exact j6 g h
    · exact .inr (by omega)
 have hY:YieldOk P (env.it l cnt arg) B ⟨obs.length,β,newsH obs,true⟩:=⟨hY1,iter_dlg (S:=S) (w:=w) hJs hJr rfl⟩
 refine code_sound hT hm c (env.it l cnt arg) he' none B ⟨obs.length,β,newsH obs,true⟩ hY recs_none (fun _=>.inr rfl) (fun h=>by cases h) _ _ _ _ S (mvC β k obs.length) _ w ⟨_,_,_,⟨X,W,hJ0,hX,hW,fun b hb=>.inl hb,Fr.refl _ _,fun b hb=>.inl hb,fun b hb=>.inl hb⟩,hi⟩ rfl (h l) ?_
 have key:∀(s:St) (S1:Nat→Prop) (β1:Nat→Cr) (a:Act) (w1:World),InvB B ⟨obs.length,β,newsH obs,true⟩ s S1 β1 a w1→(resA T s fn.results.toList).isSome=true∧(s.stop=true∨s.y=cnt)→LeavesInM (Wd none) 0 P fn a.tmps (fun e w'=>∃u i st X' W',e=.returned u∧J i st X' W' w'∧(st=true∨i=cnt)∧Fr (fun b=>W b∨Mof β obs b) w w') a.defers .returning w1:=by
  rintro s S1 β1 a w1 ⟨M0,S0,w0,⟨X',W',j1,j2,j3,j4,j5,j6,j7⟩,hi⟩ ⟨hr,hst⟩
  rw[hi.nod.1 rfl]
  obtain⟨vs',hvs'⟩:=Option.isSome_iff_exists.1 hr
  obtain⟨us,h1,h2⟩:=res_of hT hi fn.results.toList vs' hvs'
  obtain⟨u,hu⟩:∃u,(results fn a.tmps).run P w1=.ok u w1:=⟨if h:us.toArray.size=1 then us.toArray[0] else .tuple us.toArray,by
   rw[results_eq,Array.mapM_eq_mapM_toList]
   simp only[map_eq_pure_bind,bind_assoc,pure_bind,Sem.run_bind,h1,Result.andThen_ok,Sem.run_pure]⟩
  refine⟨u,hu,u,s.y,s.stop,X',W',rfl,hJs _ _ _ _ _ w1 j1 hi.rel.fr.os hi.rel.fr.tape hi.rel.fr.output hi.rel.fr.size (fun g hg=>hi.rel.fr.block g (j2 g hg).1 (j2 g hg).2),hst,?_⟩
  · have hz:=hi.rel.fr.size
    have hzw:=j5.size
    refine⟨hi.rel.fr.os.trans j5.os,hi.rel.fr.tape.trans j5.tape,hi.rel.fr.output.trans j5.output,by omega,fun b hb hn => ?_,Nat.le_trans j5.drawn hi.rel.fr.drawn⟩
    rw[hi.rel.fr.block b (by omega) (fun hm => ?_),j5.block b hb hn]
    rcases j6 b hm with h | h
    · exact hn (.inr h)
    · omega
 rintro e s S1 β1 a w1 hi hn hh
 cases e with
 | exit i=>exact hh.elim
 | panic x=>exact hh.elim
 | normal=>exact key s S1 β1 a w1 hi hh
 | ret=>exact key s S1 β1 a w1 hi hh
end
theorem fn_okIM {P:Program} {T:Tab} {env:Env} (he:EnvOk P env) (hT:TabOk P T) (hm:P.follows .mixedOrders=true) {g:FuncId} {fn:Func} (hf:P.funcs[g]? = some fn) (hname:(fn.name == "runtime.NumGoroutine")=false) (hb:fn.body.isSome=true) {args caps:List AV} {obs:List Ob} {cnt:Nat} {arg:Nat→List AV} (k:Nat) (hk:k<obs.length)
 (h:∀l,fnIM T env fn (bodyOf fn) args caps obs k l cnt arg):AIter P g args caps obs cnt arg:=by
 obtain⟨c,hc⟩:=Option.isSome_iff_exists.1 hb
 have e:bodyOf fn=c:=by unfold bodyOf;rw[hc];rfl
 rw[e] at h
 exact fn_iterM he hT hm hf hname hc k hk h
end Go.Proofs.YtkpjcmiijlpcaaaGreat.Aw
namespace Go.Proofs.YtkpjcmiijlpcaaaGreat.Aw
open Go
inductive FrzE (H:Nat→Ob):AV→AV→Prop
 | refl (a:AV):FrzE H a a
 | row (k:Nat) (e:TypeId) (t:Ty) (h:H k=.row e t []):FrzE H (.row k) (.list e t [])
 | nils (e:TypeId) (t:Ty):FrzE H (.nils e t) (.list e t [])
 | nil0 (e:TypeId) (t:Ty):FrzE H .nil0 (.list e t [])
 | agg (c c':AV) (h:FrzE H c c'):FrzE H (.agg c) (.agg c')
 | tuple (c c':AV) (h:FrzE H c c'):FrzE H (.tuple c) (.tuple c')
 | cons (a a' b b':AV) (h1:FrzE H a a') (h2:FrzE H b b'):FrzE H (.cons a b) (.cons a' b')
theorem FrzE.of {S:Nat→Prop} {w:World} {β:Nat→Cr} {H:Nat→Ob} {v v':AV} (hf:FrzE H v' v):∀vs,VL S w β H v' vs→VL S w β H v vs:=by
 induction hf with
 | refl a=>exact fun _ h=>h
 | row k e t h=>
  rintro vs ⟨u,e1,hl⟩
  refine⟨u,e1,?_⟩
  simp only[leaf,h] at hl
  show DR S w (.list e t) [] [u]
  cases hg:(β k).g with
  | none=>exact⟨none,0,0,[],by rw[hl];simp[rowV,hg],rfl,Nat.le_refl _,rfl,fun j u hj=>by simp at hj,fun _=>rfl⟩
  | some g=>exact⟨some ⟨g,0,none⟩,0,(β k).cap,[],by rw[hl];simp[rowV,hg],rfl,Nat.zero_le _,rfl,fun j u hj=>(by simp at hj),fun h=>(by cases h)⟩
 | nils e t=>rintro vs ⟨v,e1,hv⟩;exact⟨v,e1,nils_list hv⟩
 | nil0 e t=>rintro vs ⟨v,e1,hv⟩;exact⟨v,e1,nils_list (e:=e) (t:=t) (w:=w) (S:=S) (β:=β) (H:=H) hv⟩
 | agg c c' _ ih=>exact fun _ ⟨cs,e,h⟩=>⟨cs,e,ih _ h⟩
 | tuple c c' _ ih=>exact fun _ ⟨cs,e,h⟩=>⟨cs,e,ih _ h⟩
 | cons a a' b b' _ _ ih1 ih2=>exact fun _ ⟨v,r,e,h1,h2⟩=>⟨v,r,e,ih1 _ h1,ih2 _ h2⟩
theorem Rel.more {M S0 S:Nat→Prop} {w0 w:World} {β:Nat→Cr} {obs ext:List Ob} (hr:Rel M S0 w0 S β (newsH obs) w) (hx:∀o∈ext,∃e t,o=.row e t []) :
 ∃β2,Rel M S0 w0 S β2 (newsH (obs++ext)) w∧Ext S w β (newsH obs) S w β2 (newsH (obs++ext))∧∀k,k<obs.length→β2 k=β k∧newsH (obs++ext) k=newsH obs k:=by
 let β2:Nat→Cr:=fun k=>if k<obs.length then β k else ⟨none,0,[]⟩
 have hnew:∀k,¬k<obs.length→newsH obs k=.none:=fun k hk=>by
  simp only[newsH,List.getD]
  rw[List.getElem?_eq_none (by omega)]
  rfl
 have hold:∀k,k<obs.length→newsH (obs++ext) k=newsH obs k:=fun k hk=>by
  simp only[newsH,List.getD]
  rw[List.getElem?_append_left hk]
 have hext:∀k,¬k<obs.length→newsH (obs++ext) k=.none∨∃e t,newsH (obs++ext) k=.row e t []:=fun k hk=>by
  simp only[newsH,List.getD]
  rw[List.getElem?_append_right (by omega)]
  cases ho:ext[k-obs.length]? with
  | none=>exact .inl rfl
  | some o=>obtain⟨e,t,rfl⟩:=hx o (List.mem_of_getElem? ho);exact .inr ⟨e,t,rfl⟩
 have hE:Ext S w β (newsH obs) S w β2 (newsH (obs++ext)):=by
  refine⟨fun b hb=>⟨hb,rfl⟩,fun k => ?_⟩
  by_cases hk:k<obs.length
  · simp only[β2,if_pos hk,hold k hk];exact ObExt.refl _ _
  · rw[hnew k hk];trivial
 have hgo:∀k g,(newsH (obs++ext) k).live=true→(β2 k).has g→(newsH obs k).live=true∧(β k).has g:=by
  intro k g hl hg
  by_cases hk:k<obs.length
  · simp only[β2,if_pos hk] at hg
    rw[hold k hk] at hl
    exact⟨hl,hg⟩
  · simp only[β2,if_neg hk] at hg
    exact absurd hg has_nil
 refine⟨β2,⟨hr.fr,hr.s0,hr.sS,fun k g hl hg=>hr.own k g (hgo k g hl hg).1 (hgo k g hl hg).2,fun k k' g hl hl' hg hg'=>hr.dis k k' g (hgo k g hl hg).1 (hgo k' g hl' hg').1 (hgo k g hl hg).2 (hgo k' g hl' hg').2,fun k => ?_⟩,hE,fun k hk=>⟨by simp only[β2,if_pos hk],hold k hk⟩⟩
 by_cases hk:k<obs.length
 · simp only[β2,if_pos hk]
   rw[hold k hk]
   exact ObR.ext hE _ _ (fun _ _=>rfl) (hr.ob k)
 · simp only[β2,if_neg hk]
   rcases hext k hk with h1 | ⟨e,t,h1⟩
   · rw[h1];trivial
   · rw[h1];exact .inl ⟨rfl,rfl⟩
def GivesE (n:Nat) (v:AV) (obs':List Ob) (v':AV) (o':List Ob):Prop:=n≤o'.length∧∃ext:List Ob,obs'=o'++ext∧(∀o∈ext,∃e t,o=.row e t [])∧FrzE (newsH o') v' v
theorem fn_ok2Z {P:Program} {T:Tab} {env:Env} (he:EnvOk P env) (hT:TabOk P T) (hm:P.follows .mixedOrders=true) {g:FuncId} {fn:Func} (hf:P.funcs[g]? = some fn) (hname:(fn.name == "runtime.NumGoroutine")=false) (hb:fn.body.isSome=true) {args:List AV} {obs:List Ob} {v:AV} {obs':List Ob}
 (h:fnB T env fn (bodyOf fn) args obs fun v' o'=>GivesE obs.length v obs' v' o') (hy:env.ycnt=0∧env.isIt=false:=by exact⟨rfl,rfl⟩):ACalls2 P g args obs v obs':=by
 obtain⟨c,hc⟩:=Option.isSome_iff_exists.1 hb
 have e:bodyOf fn=c:=by unfold bodyOf;rw[hc];rfl
 rw[e] at h
 refine⟨⟨fn,hf,hname,by rw[hc];rfl⟩,fun S β w vs hrel hvs => ?_⟩
 refine (callsIn_wide (n:=0)).1 (callsIn_of_wp_marks (F:=Wd none) hf hc trivial ?_)
 have hi:=start_inv (π:=⟨obs.length,β,newsH obs,false⟩) (fn:=fn) (n:=obs.length) (vs:=vs) hrel hvs (fun k _=>ObExt.refl _ _)
 refine code_sound hT hm c env he none (baseB _ _ _) ⟨obs.length,β,newsH obs,false⟩ (YieldOk.none hy) recs_none (fun h=>by cases h) (fun h=>by cases h) _ _ _ _ S β _ w ⟨_,_,_,⟨rfl,rfl,rfl⟩,hi⟩ rfl h (fun e s S' β' a' w' h1 h2 h3=>end_sound (RP:=fun _ _=>False) hT (fun v' news' S' β' w' u h1 h2 hp h3 => ?_) (fun _ _ _ _ _ _ _ h=>h.elim) e s S' β' a' w' h1 h2 (endP_of h3))
 obtain⟨hn,ext,rfl,hx,hz⟩:=h3
 obtain⟨β2,hr2,hE,hk⟩:=h1.more hx
 refine⟨u,rfl,S',β2,hr2,VL.ext hE _ _ (hz.of _ h2),fun i hi => ?_⟩
 obtain⟨q1,q2⟩:=hk i (Nat.lt_of_lt_of_le hi hn)
 rw[q1,q2]
 exact hp i hi
end Go.Proofs.YtkpjcmiijlpcaaaGreat.Aw
