/- The table of the program's types, and that it is the program's. -/
import Derived.Test.YtkpjcmiijlpcaaaDoorProg
import Derived.Test.YtkpjcmiijlpcaaaDoorAwAJ
import Derived.Test.YtkpjcmiijlpcaaaDoorAwN
import Derived.KernelRfl
import Derived.Lib.Builder
import Derived.Lib.UnsafeStr
import Derived.Lib.Walk
import Derived.Shelf.Strings.Builder1
set_option linter.unusedVariables false
set_option linter.unusedSimpArgs false
namespace Go.Proofs.YtkpjcmiijlpcaaaDoor.W
open Go Go.Proofs Go.Proofs.YtkpjcmiijlpcaaaDoor.Aw
abbrev KI:Ty:=.int .i64
def tab:Tab:=[(0,⟨.unk,0,0,[],none,false⟩),
 (1,⟨.scalar,1,8,[.nilf],none,false⟩),
 (2,⟨.scalar,1,8,[.int .i64 0],some KI,true⟩),
 (3,⟨.scalar,1,8,[.int .i64 0],some KI,true⟩),
 (4,⟨.scalar,1,1,[.bool false],some Ty.bool,true⟩),
 (5,⟨.scalar,1,1,[.int .u8 0],some (Ty.int .u8),true⟩),
 (6,⟨.scalar,1,1,[.int .u8 0],some (Ty.int .u8),true⟩),
 (7,⟨.struct [(0,2),(1,3),(2,4),(3,6)],4,24,[.int .i64 0,.int .i64 0,.bool false,.int .u8 0],some (KI.pair (KI.pair (Ty.bool.pair (Ty.int .u8)))),true⟩),
 (8,⟨.struct [(0,2),(1,3),(2,4),(3,6)],4,24,[.int .i64 0,.int .i64 0,.bool false,.int .u8 0],some (KI.pair (KI.pair (Ty.bool.pair (Ty.int .u8)))),false⟩),
 (9,⟨.scalar,1,16,[.str ⟨#[]⟩],some Ty.str,true⟩),
 (10,⟨.scalar,1,16,[.str ⟨#[]⟩],some Ty.str,true⟩),
 (11,⟨.scalar,1,16,[.str ⟨#[]⟩],some Ty.str,true⟩),
 (12,⟨.scalar,1,8,[.int .u64 0],some (Ty.int .u64),true⟩),
 (13,⟨.struct [(0,9),(1,12)],2,24,[.str ⟨#[]⟩,.int .u64 0],some (Ty.str.pair (Ty.int .u64)),false⟩),
 (14,⟨.struct [(0,9),(1,12)],2,24,[.str ⟨#[]⟩,.int .u64 0],some (Ty.str.pair (Ty.int .u64)),false⟩),
 (15,⟨.scalar,1,8,[.nilp],none,false⟩),
 (16,⟨.scalar,1,8,[.nilp],none,false⟩),
 (17,⟨.scalar,1,8,[.nilp],none,false⟩),
 (18,⟨.struct [(0,17)],1,8,[.nilp],none,false⟩),
 (19,⟨.struct [(0,17)],1,8,[.nilp],none,false⟩),
 (20,⟨.scalar,1,16,[.nili],none,false⟩),
 (21,⟨.scalar,1,4,[.int .i32 0],some (Ty.int .i32),true⟩),
 (22,⟨.slice 30,1,24,[.nils 30 (KI.pair (KI.pair (KI.pair KI)))],some (Ty.list 30 (KI.pair (KI.pair (KI.pair KI)))),false⟩),
 (23,⟨.scalar,1,1,[.int .i8 0],some (Ty.int .i8),true⟩),
 (24,⟨.scalar,1,8,[.nilf],none,false⟩),
 (25,⟨.slice 34,1,24,[.nils 34 (KI.pair (KI.pair (KI.pair KI)))],some (Ty.list 34 (KI.pair (KI.pair (KI.pair KI)))),false⟩),
 (26,⟨.slice 214,1,24,[.nils 214 (KI.pair ((KI.pair (KI.pair (KI.pair KI))).pair (KI.pair KI)))],some (Ty.list 214 (KI.pair ((KI.pair (KI.pair (KI.pair KI))).pair (KI.pair KI)))),false⟩),
 (27,⟨.struct [(0,25),(1,26)],2,48,[.nils 34 (KI.pair (KI.pair (KI.pair KI))),.nils 214 (KI.pair ((KI.pair (KI.pair (KI.pair KI))).pair (KI.pair KI)))],some ((Ty.list 34 (KI.pair (KI.pair (KI.pair KI)))).pair (Ty.list 214 (KI.pair ((KI.pair (KI.pair (KI.pair KI))).pair (KI.pair KI))))),false⟩),
 (28,⟨.struct [(0,25),(1,26)],2,48,[.nils 34 (KI.pair (KI.pair (KI.pair KI))),.nils 214 (KI.pair ((KI.pair (KI.pair (KI.pair KI))).pair (KI.pair KI)))],some ((Ty.list 34 (KI.pair (KI.pair (KI.pair KI)))).pair (Ty.list 214 (KI.pair ((KI.pair (KI.pair (KI.pair KI))).pair (KI.pair KI))))),false⟩),
 (29,⟨.array 4 3,4,32,[.int .i64 0,.int .i64 0,.int .i64 0,.int .i64 0],some (KI.pair (KI.pair (KI.pair KI))),true⟩),
 (30,⟨.array 4 3,4,32,[.int .i64 0,.int .i64 0,.int .i64 0,.int .i64 0],some (KI.pair (KI.pair (KI.pair KI))),true⟩),
 (31,⟨.scalar,1,8,[.nilf],none,false⟩),
 (32,⟨.slice 3,1,24,[.nils 3 KI],some (Ty.list 3 KI),false⟩),
 (33,⟨.struct [(0,3),(1,3),(2,3),(3,3)],4,32,[.int .i64 0,.int .i64 0,.int .i64 0,.int .i64 0],some (KI.pair (KI.pair (KI.pair KI))),true⟩),
 (34,⟨.struct [(0,3),(1,3),(2,3),(3,3)],4,32,[.int .i64 0,.int .i64 0,.int .i64 0,.int .i64 0],some (KI.pair (KI.pair (KI.pair KI))),true⟩),
 (35,⟨.scalar,1,8,[.nilf],none,false⟩),
 (36,⟨.scalar,1,8,[.nilf],none,false⟩),
 (37,⟨.slice 9,1,24,[.nils 9 Ty.str],some (Ty.list 9 Ty.str),false⟩),
 (38,⟨.scalar,1,8,[.nilf],none,false⟩),
 (39,⟨.scalar,1,8,[.nilf],none,false⟩),
 (40,⟨.scalar,1,8,[.nilf],none,false⟩),
 (41,⟨.scalar,1,8,[.nilf],none,false⟩),
 (42,⟨.scalar,1,8,[.nilf],none,false⟩),
 (43,⟨.scalar,1,8,[.nilf],none,false⟩),
 (44,⟨.scalar,1,8,[.nilf],none,false⟩),
 (45,⟨.scalar,1,8,[.nilf],none,false⟩),
 (46,⟨.slice 51,1,24,[.nils 51 (KI.pair (KI.pair (KI.pair (KI.pair (KI.pair (KI.pair ((KI.pair (KI.pair (KI.pair KI))).pair (KI.pair (KI.pair (KI.pair KI))))))))))],some (Ty.list 51 (KI.pair (KI.pair (KI.pair (KI.pair (KI.pair (KI.pair ((KI.pair (KI.pair (KI.pair KI))).pair (KI.pair (KI.pair (KI.pair KI))))))))))),false⟩),
 (47,⟨.scalar,1,8,[.int .i64 0],some KI,true⟩),
 (48,⟨.unk,0,0,[],none,false⟩),
 (49,⟨.scalar,1,8,[.nilf],none,false⟩),
 (50,⟨.struct [(0,3),(1,3),(2,3),(3,3),(4,3),(5,3),(6,29),(10,29)],14,112,[.int .i64 0,.int .i64 0,.int .i64 0,.int .i64 0,.int .i64 0,.int .i64 0,.int .i64 0,.int .i64 0,.int .i64 0,.int .i64 0,.int .i64 0,.int .i64 0,.int .i64 0,.int .i64 0],some (KI.pair (KI.pair (KI.pair (KI.pair (KI.pair (KI.pair ((KI.pair (KI.pair (KI.pair KI))).pair (KI.pair (KI.pair (KI.pair KI)))))))))),true⟩),
 (51,⟨.struct [(0,3),(1,3),(2,3),(3,3),(4,3),(5,3),(6,29),(10,29)],14,112,[.int .i64 0,.int .i64 0,.int .i64 0,.int .i64 0,.int .i64 0,.int .i64 0,.int .i64 0,.int .i64 0,.int .i64 0,.int .i64 0,.int .i64 0,.int .i64 0,.int .i64 0,.int .i64 0],some (KI.pair (KI.pair (KI.pair (KI.pair (KI.pair (KI.pair ((KI.pair (KI.pair (KI.pair KI))).pair (KI.pair (KI.pair (KI.pair KI)))))))))),true⟩),
 (52,⟨.scalar,1,8,[.nilf],none,false⟩),
 (53,⟨.scalar,1,8,[.nilp],none,false⟩),
 (54,⟨.scalar,1,8,[.nilf],none,false⟩),
 (55,⟨.scalar,1,8,[.nilp],none,false⟩),
 (56,⟨.slice 5,1,24,[.nils 5 (Ty.int .u8)],some (Ty.list 5 (Ty.int .u8)),false⟩),
 (57,⟨.struct [(0,55),(1,56)],2,32,[.nilp,.nils 5 (Ty.int .u8)],none,false⟩),
 (58,⟨.struct [(0,55),(1,56)],2,32,[.nilp,.nils 5 (Ty.int .u8)],none,false⟩),
 (59,⟨.scalar,1,8,[.nilf],none,false⟩),
 (60,⟨.scalar,1,16,[.nili],none,false⟩),
 (61,⟨.scalar,1,16,[.nili],none,false⟩),
 (62,⟨.scalar,1,8,[.nilf],none,false⟩),
 (63,⟨.scalar,1,8,[.nilf],none,false⟩),
 (64,⟨.scalar,1,8,[.nilf],none,false⟩),
 (65,⟨.scalar,1,8,[.nilf],none,false⟩),
 (66,⟨.array 6 9,6,96,[.str ⟨#[]⟩,.str ⟨#[]⟩,.str ⟨#[]⟩,.str ⟨#[]⟩,.str ⟨#[]⟩,.str ⟨#[]⟩],some (Ty.str.pair (Ty.str.pair (Ty.str.pair (Ty.str.pair (Ty.str.pair Ty.str))))),true⟩),
 (67,⟨.unk,0,0,[],none,false⟩),
 (68,⟨.scalar,1,8,[.nilf],none,false⟩),
 (69,⟨.unk,0,0,[],none,false⟩),
 (70,⟨.scalar,1,8,[.nilf],none,false⟩),
 (71,⟨.scalar,1,8,[.nilf],none,false⟩),
 (72,⟨.slice 32,1,24,[.nils 32 (Ty.list 3 KI)],some (Ty.list 32 (Ty.list 3 KI)),false⟩),
 (73,⟨.struct [(0,32),(1,72),(2,25)],3,72,[.nils 3 KI,.nils 32 (Ty.list 3 KI),.nils 34 (KI.pair (KI.pair (KI.pair KI)))],some ((Ty.list 3 KI).pair ((Ty.list 32 (Ty.list 3 KI)).pair (Ty.list 34 (KI.pair (KI.pair (KI.pair KI)))))),false⟩),
 (74,⟨.struct [(0,32),(1,72),(2,25)],3,72,[.nils 3 KI,.nils 32 (Ty.list 3 KI),.nils 34 (KI.pair (KI.pair (KI.pair KI)))],some ((Ty.list 3 KI).pair ((Ty.list 32 (Ty.list 3 KI)).pair (Ty.list 34 (KI.pair (KI.pair (KI.pair KI)))))),false⟩),
 (75,⟨.map 3 77,1,8,[.undef],none,false⟩),
 (76,⟨.scalar,1,8,[.nilf],none,false⟩),
 (77,⟨.struct [],0,0,[],some Ty.unit,true⟩),
 (78,⟨.scalar,1,8,[.nilf],none,false⟩),
 (79,⟨.scalar,1,8,[.nilf],none,false⟩),
 (80,⟨.scalar,1,8,[.nilf],none,false⟩),
 (81,⟨.scalar,1,8,[.nilf],none,false⟩),
 (82,⟨.unk,0,0,[],none,false⟩),
 (83,⟨.scalar,1,8,[.nilf],none,false⟩),
 (84,⟨.struct [(0,3),(1,3)],2,16,[.int .i64 0,.int .i64 0],some (KI.pair KI),true⟩),
 (85,⟨.struct [(0,3),(1,3)],2,16,[.int .i64 0,.int .i64 0],some (KI.pair KI),true⟩),
 (86,⟨.scalar,1,8,[.nilf],none,false⟩),
 (87,⟨.scalar,1,8,[.nilf],none,false⟩),
 (88,⟨.scalar,1,8,[.nilp],none,false⟩),
 (89,⟨.scalar,1,8,[.nilf],none,false⟩),
 (90,⟨.scalar,1,8,[.nilf],none,false⟩),
 (91,⟨.scalar,1,8,[.nilf],none,false⟩),
 (92,⟨.scalar,1,8,[.nilf],none,false⟩),
 (93,⟨.scalar,1,8,[.nilp],none,false⟩),
 (94,⟨.scalar,1,8,[.nilf],none,false⟩),
 (95,⟨.scalar,1,8,[.nilf],none,false⟩),
 (96,⟨.scalar,1,8,[.nilf],none,false⟩),
 (97,⟨.scalar,1,8,[.nilf],none,false⟩),
 (98,⟨.scalar,1,8,[.int .u64 0],some (Ty.int .u64),true⟩),
 (99,⟨.scalar,1,8,[.nilf],none,false⟩),
 (100,⟨.unk,0,0,[],none,false⟩),
 (101,⟨.scalar,1,8,[.nilf],none,false⟩),
 (102,⟨.scalar,1,8,[.nilf],none,false⟩),
 (103,⟨.unk,0,0,[],none,false⟩),
 (104,⟨.scalar,1,8,[.nilf],none,false⟩),
 (105,⟨.scalar,1,8,[.nilf],none,false⟩),
 (106,⟨.scalar,1,8,[.nilf],none,false⟩)]
theorem tab_eq:tab=tabOf Tryd.prog (List.range 107):=by kernel_rfl
theorem tab_ok:TabOk Tryd.prog tab:=by rw[tab_eq];exact tabOf_ok _ _
theorem mixed:Tryd.prog.follows .mixedOrders=true:=by kernel_rfl
end Go.Proofs.YtkpjcmiijlpcaaaDoor.W
namespace Go.Proofs.YtkpjcmiijlpcaaaDoor.Aw
section
variable {α:Type}
theorem mIdx_lt {k:Int}:∀ {m:List (Int×α)},mIdx k m<m.length↔k∈m.map (·.1)
 | []=>by simp[mIdx]
 | p::l=>by
  have ih:=mIdx_lt (k:=k) (m:=l)
  simp only[mIdx,List.length_cons,List.map_cons,List.mem_cons]
  cases hk:(k==p.1)
  · have hne:k≠p.1:=by simpa using hk
    simp only[cond_false,Nat.add_lt_add_iff_right,ih]
    exact⟨.inr,fun h=>h.resolve_left hne⟩
  · have he:k=p.1:=by simpa using hk
    simp[he]
theorem mPut_keys (k:Int) (x:α) (m:List (Int×α)):(mPut k x m).map (·.1)=if k∈m.map (·.1) then m.map (·.1) else m.map (·.1)++[k]:=by
 by_cases h:mIdx k m<m.length
 · rw[mPut_yes h,if_pos (mIdx_lt.1 h)]
   apply List.ext_getElem?
   intro i
   rw[List.getElem?_map,List.getElem?_map]
   by_cases hi:i=mIdx k m
   · subst hi
     rw[List.getElem?_set_self h,List.getElem?_eq_getElem h]
     have:=mIdx_key (key:=k) m _ (List.getElem?_eq_getElem h)
     simp[this]
   · rw[List.getElem?_set_ne (Ne.symm hi)]
 · rw[mPut_no h,if_neg (fun hc=>h (mIdx_lt.2 hc)),List.map_append]
   rfl
theorem mPut_nodup {k:Int} {x:α} {m:List (Int×α)} (h:(m.map (·.1)).Nodup):((mPut k x m).map (·.1)).Nodup:=by
 rw[mPut_keys]
 split
 · exact h
 · rename_i hk
   rw[List.nodup_append]
   refine⟨h,by simp,?_⟩
   intro a ha b hb
   simp only[List.mem_singleton] at hb
   subst hb
   intro e
   subst e
   exact hk ha
theorem mPut_mem {k k':Int} {x:α} {m:List (Int×α)}:k'∈(mPut k x m).map (·.1)↔k'=k∨k'∈m.map (·.1):=by
 rw[mPut_keys]
 split
 · rename_i h
   exact⟨.inr,fun hh=>hh.elim (fun e=>e▸h) id⟩
 · simp[or_comm]
end
end Go.Proofs.YtkpjcmiijlpcaaaDoor.Aw
set_option linter.unusedVariables false
set_option linter.unusedSimpArgs false
namespace Go.Proofs.YtkpjcmiijlpcaaaDoor.W
open Go Go.Proofs Go.Proofs.YtkpjcmiijlpcaaaDoor.Aw
abbrev T4:Ty:=.pair (.int .i64) (.pair (.int .i64) (.pair (.int .i64) (.int .i64)))
abbrev Rc4:=Int×Int×Int×Int
theorem step4 (xs:List Rc4) (k:Nat) (h:k<xs.length):xs.take k++[((xs.getD (k:Int).toNat (0,0,0,0)).1,(xs.getD (k:Int).toNat (0,0,0,0)).2.1,(xs.getD (k:Int).toNat (0,0,0,0)).2.2.1,(xs.getD (k:Int).toNat (0,0,0,0)).2.2.2)]=xs.take (k+1):=by
 rw[getD_nat xs _ k h,take_next xs k h]
def consD0:Cons:=[]
def twosD0:Cons2:=[]
def pansD0:Cons3:=[]
def itersD0:Cons4:=[]
abbrev eD0:Env:=envOf4 consD0 twosD0 pansD0 itersD0
theorem allconsD0:∀c∈consD0,ConOk Tryd.prog c:=all_nil
theorem alltwosD0:∀c∈twosD0,ConOk2 Tryd.prog c:=all_nil
theorem allpansD0:∀c∈pansD0,ConOk3 Tryd.prog c:=all_nil
theorem allitersD0:∀c∈itersD0,ConOk4 Tryd.prog c:=all_nil
theorem envD0:EnvOk Tryd.prog eD0:=envOf4_ok _ _ _ _ allconsD0 alltwosD0 allpansD0 allitersD0
def con9:List AV→Option Tells
 | [.agg (.cons (.int .i64 a) (.cons (.int .i64 b) (.cons (.int .i64 c) (.cons (.int .i64 d) .nl))))]=>some ⟨[],((AV.int .i64 a).cons ((AV.int .i64 b).cons ((AV.int .i64 c).cons ((AV.int .i64 d).cons AV.nl)))).agg,[]⟩
 | _=>none
theorem f9_run (R:AV→List Ob→Prop) (a b c d:Int):fnA tab eD0 Tryd.f9 (bodyOf Tryd.f9) [.agg (.cons (.int .i64 a) (.cons (.int .i64 b) (.cons (.int .i64 c) (.cons (.int .i64 d) .nl))))] R=((0:Int)≤0∧(0:Int)<4∧(0:Int)≤1∧(1:Int)<4∧(0:Int)≤2∧(2:Int)<4∧(0:Int)≤3∧(3:Int)<4∧R ((AV.int .i64 a).cons ((AV.int .i64 b).cons ((AV.int .i64 c).cons ((AV.int .i64 d).cons AV.nl)))).agg []):=by kernel_rfl
theorem ok9:ConOk Tryd.prog (9,con9):=by
 intro args t h hp
 simp only[con9] at h
 split at h
 · cases h
   refine fn_ok envD0 tab_ok mixed Tryd.func9 (by kernel_rfl) (by kernel_rfl) ?_
   rw[f9_run]
   exact⟨of_decide_eq_true rfl,⟨of_decide_eq_true rfl,⟨of_decide_eq_true rfl,⟨of_decide_eq_true rfl,⟨of_decide_eq_true rfl,⟨of_decide_eq_true rfl,⟨of_decide_eq_true rfl,⟨of_decide_eq_true rfl,⟨rfl,rfl⟩⟩⟩⟩⟩⟩⟩⟩⟩
 · cases h
def con31:List AV→Option Tells
 | [.agg (.cons (.int .i64 a) (.cons (.int .i64 b) (.cons (.int .i64 c) (.cons (.int .i64 d) .nl))))]=>some ⟨[],((AV.int .i64 a).cons ((AV.int .i64 c).cons AV.nl)).agg,[]⟩
 | _=>none
theorem f31_run (R:AV→List Ob→Prop) (a b c d:Int):fnA tab eD0 Tryd.f31 (bodyOf Tryd.f31) [.agg (.cons (.int .i64 a) (.cons (.int .i64 b) (.cons (.int .i64 c) (.cons (.int .i64 d) .nl))))] R=(R ((AV.int .i64 a).cons ((AV.int .i64 c).cons AV.nl)).agg []):=by kernel_rfl
theorem ok31:ConOk Tryd.prog (31,con31):=by
 intro args t h hp
 simp only[con31] at h
 split at h
 · cases h
   refine fn_ok envD0 tab_ok mixed Tryd.func31 (by kernel_rfl) (by kernel_rfl) ?_
   rw[f31_run]
   exact⟨rfl,rfl⟩
 · cases h
def con43:List AV→Option Tells
 | [.agg (.cons (.int .i64 a) (.cons (.int .i64 b) (.cons (.int .i64 c) (.cons (.int .i64 d) .nl))))]=>some ⟨[],((AV.int .i64 b).cons ((AV.int .i64 d).cons AV.nl)).agg,[]⟩
 | _=>none
theorem f43_run (R:AV→List Ob→Prop) (a b c d:Int):fnA tab eD0 Tryd.f43 (bodyOf Tryd.f43) [.agg (.cons (.int .i64 a) (.cons (.int .i64 b) (.cons (.int .i64 c) (.cons (.int .i64 d) .nl))))] R=(R ((AV.int .i64 b).cons ((AV.int .i64 d).cons AV.nl)).agg []):=by kernel_rfl
theorem ok43:ConOk Tryd.prog (43,con43):=by
 intro args t h hp
 simp only[con43] at h
 split at h
 · cases h
   refine fn_ok envD0 tab_ok mixed Tryd.func43 (by kernel_rfl) (by kernel_rfl) ?_
   rw[f43_run]
   exact⟨rfl,rfl⟩
 · cases h
def con42:List AV→Option Tells
 | [.agg (.cons (.int .i64 a) (.cons (.int .i64 b) .nl))]=>some ⟨[],AV.int .i64 (IntKind.i64.wrap (b-a)),[]⟩
 | _=>none
theorem f42_run (R:AV→List Ob→Prop) (a b:Int):fnA tab eD0 Tryd.f42 (bodyOf Tryd.f42) [.agg (.cons (.int .i64 a) (.cons (.int .i64 b) .nl))] R=(R (AV.int .i64 (IntKind.i64.wrap (b-a))) []):=by kernel_rfl
theorem ok42:ConOk Tryd.prog (42,con42):=by
 intro args t h hp
 simp only[con42] at h
 split at h
 · cases h
   refine fn_ok envD0 tab_ok mixed Tryd.func42 (by kernel_rfl) (by kernel_rfl) ?_
   rw[f42_run]
   exact⟨rfl,rfl⟩
 · cases h
def con15:List AV→Option Tells
 | [.int .i64 5]=>some ⟨[],AV.str {data := #[97,116,111,109]},[]⟩
 | _=>none
theorem f15_run (R:AV→List Ob→Prop):fnA tab eD0 Tryd.f15 (bodyOf Tryd.f15) [.int .i64 5] R=((0:Int)≤5∧(5:Int)<6∧R (AV.str {data := #[97,116,111,109]}) []):=by kernel_rfl
theorem ok15:ConOk Tryd.prog (15,con15):=by
 intro args t h hp
 simp only[con15] at h
 split at h
 · cases h
   refine fn_ok envD0 tab_ok mixed Tryd.func15 (by kernel_rfl) (by kernel_rfl) ?_
   rw[f15_run]
   exact⟨of_decide_eq_true rfl,⟨of_decide_eq_true rfl,⟨rfl,rfl⟩⟩⟩
 · cases h
def con32:List AV→Option Tells
 | [.agg (.cons (.int .i64 a) (.cons (.int .i64 b) .nl)),.int .i64 n]=>some ⟨[],.bool (decide (a≤n)&&decide (n<b)),[]⟩
 | _=>none
theorem f32_run (R:AV→List Ob→Prop) (a b n:Int):fnA tab eD0 Tryd.f32 (bodyOf Tryd.f32) [.agg (.cons (.int .i64 a) (.cons (.int .i64 b) .nl)),.int .i64 n] R=(bif decide (n≥a) then R (AV.bool (decide (n<b))) [] else R (AV.bool false) []):=by kernel_rfl
theorem ok32:ConOk Tryd.prog (32,con32):=by
 intro args t h hp
 change con32 args=some t at h
 unfold con32 at h
 split at h
 · rename_i a b n
   cases h
   refine fn_ok envD0 tab_ok mixed Tryd.func32 (by kernel_rfl) (by kernel_rfl) ?_
   rw[f32_run]
   try dsimp only
   refine cond_split (fun h=>⟨?_,rfl⟩) (fun h=>⟨?_,rfl⟩)
   · have h':decide (a≤n)=true:=h
     rw[h',Bool.true_and]
   · have h':decide (a≤n)=false:=h
     rw[h',Bool.false_and]
 · cases h
def con76:List AV→Option Tells
 | [.int .i64 a]=>some ⟨[],.bool false,[]⟩
 | _=>none
theorem f76_run (R:AV→List Ob→Prop) (a:Int):fnA tab eD0 Tryd.f76 (bodyOf Tryd.f76) [.int .i64 a] R=(R (AV.bool (a != a)) []):=by kernel_rfl
theorem ok76:ConOk Tryd.prog (76,con76):=by
 intro args t h hp
 change con76 args=some t at h
 unfold con76 at h
 split at h
 · rename_i a
   cases h
   refine fn_ok envD0 tab_ok mixed Tryd.func76 (by kernel_rfl) (by kernel_rfl) ?_
   rw[f76_run]
   try dsimp only
   exact⟨by simp,rfl⟩
 · cases h
def con48:List AV→Option Tells
 | [.int .i64 a]=>some ⟨[],.bool false,[]⟩
 | _=>none
theorem f48_run (R:AV→List Ob→Prop) (a:Int):fnA tab eD0 Tryd.f48 (bodyOf Tryd.f48) [.int .i64 a] R=(R (AV.bool (a != a)) []):=by kernel_rfl
theorem ok48:ConOk Tryd.prog (48,con48):=by
 intro args t h hp
 change con48 args=some t at h
 unfold con48 at h
 split at h
 · rename_i a
   cases h
   refine fn_ok envD0 tab_ok mixed Tryd.func48 (by kernel_rfl) (by kernel_rfl) ?_
   rw[f48_run]
   try dsimp only
   exact⟨by simp,rfl⟩
 · cases h
def consD1:Cons:=(9,con9)::(31,con31)::(43,con43)::(42,con42)::(15,con15)::(32,con32)::(76,con76)::(48,con48)::consD0
def twosD1:Cons2:=twosD0
def pansD1:Cons3:=pansD0
def itersD1:Cons4:=itersD0
abbrev eD1:Env:=envOf4 consD1 twosD1 pansD1 itersD1
theorem allconsD1:∀c∈consD1,ConOk Tryd.prog c:=all_cons ok9 (all_cons ok31 (all_cons ok43 (all_cons ok42 (all_cons ok15 (all_cons ok32 (all_cons ok76 (all_cons ok48 allconsD0)))))))
theorem alltwosD1:∀c∈twosD1,ConOk2 Tryd.prog c:=alltwosD0
theorem allpansD1:∀c∈pansD1,ConOk3 Tryd.prog c:=allpansD0
theorem allitersD1:∀c∈itersD1,ConOk4 Tryd.prog c:=allitersD0
theorem envD1:EnvOk Tryd.prog eD1:=envOf4_ok _ _ _ _ allconsD1 alltwosD1 allpansD1 allitersD1
def con47:List AV→Option Tells
 | [.int .i64 a,.int .i64 b]=>some ⟨[],.bool (decide (a<b)),[]⟩
 | _=>none
theorem f47_run (R:AV→List Ob→Prop) (a b:Int):fnA tab eD1 Tryd.f47 (bodyOf Tryd.f47) [.int .i64 a,.int .i64 b] R=(R (AV.bool (decide (a<b))) []):=by kernel_rfl
theorem ok47:ConOk Tryd.prog (47,con47):=by
 intro args t h hp
 change con47 args=some t at h
 unfold con47 at h
 split at h
 · rename_i a b
   cases h
   refine fn_ok envD1 tab_ok mixed Tryd.func47 (by kernel_rfl) (by kernel_rfl) ?_
   rw[f47_run]
   try dsimp only
   exact⟨rfl,rfl⟩
 · cases h
def fullW (a b c d:Int):Bool:=decide (0<IntKind.wrap .i64 (c-a))&&decide (0<IntKind.wrap .i64 (d-b))
def con27:List AV→Option Tells
 | [.agg (.cons (.int .i64 a) (.cons (.int .i64 b) (.cons (.int .i64 c) (.cons (.int .i64 d) .nl))))]=>some ⟨[],.bool (fullW a b c d),[]⟩
 | _=>none
theorem f27_run (R:AV→List Ob→Prop) (a b c d:Int):fnA tab eD1 Tryd.f27 (bodyOf Tryd.f27) [.agg (.cons (.int .i64 a) (.cons (.int .i64 b) (.cons (.int .i64 c) (.cons (.int .i64 d) .nl))))] R=(bif decide (IntKind.i64.wrap (c-a)>0) then R (AV.bool (decide (IntKind.i64.wrap (d-b)>0))) [] else R (AV.bool false) []):=by kernel_rfl
theorem ok27:ConOk Tryd.prog (27,con27):=by
 intro args t h hp
 change con27 args=some t at h
 unfold con27 at h
 split at h
 · rename_i a b c d
   cases h
   refine fn_ok envD1 tab_ok mixed Tryd.func27 (by kernel_rfl) (by kernel_rfl) ?_
   rw[f27_run]
   try dsimp only
   unfold fullW
   refine dec_split (fun h => ?_) (fun h => ?_)
   · rw[decide_eq_true (by omega:0<IntKind.wrap .i64 (c-a))];exact⟨by simp,rfl⟩
   · rw[decide_eq_false (by omega:¬0<IntKind.wrap .i64 (c-a))];exact⟨rfl,rfl⟩
 · cases h
def consD2:Cons:=(47,con47)::(27,con27)::consD1
def twosD2:Cons2:=twosD1
def pansD2:Cons3:=pansD1
def itersD2:Cons4:=itersD1
abbrev eD2:Env:=envOf4 consD2 twosD2 pansD2 itersD2
theorem allconsD2:∀c∈consD2,ConOk Tryd.prog c:=all_cons ok47 (all_cons ok27 allconsD1)
theorem alltwosD2:∀c∈twosD2,ConOk2 Tryd.prog c:=alltwosD1
theorem allpansD2:∀c∈pansD2,ConOk3 Tryd.prog c:=allpansD1
theorem allitersD2:∀c∈itersD2,ConOk4 Tryd.prog c:=allitersD1
theorem envD2:EnvOk Tryd.prog eD2:=envOf4_ok _ _ _ _ allconsD2 alltwosD2 allpansD2 allitersD2
def lb (rs:List Int) (g:Int):Nat:=(rs.takeWhile (fun x=>decide (x<g))).length
def fnd (rs:List Int) (g:Int):Bool:=decide (lb rs g<rs.length)&&rs.getD (lb rs g) 0==g
theorem lb_le (rs:List Int) (g:Int):lb rs g≤rs.length:=(List.takeWhile_prefix _).length_le
theorem lb_lt (g:Int):∀(rs:List Int) (k:Nat),k<lb rs g→rs.getD k 0<g
 | [],k,h=>by simp[lb] at h
 | x::rs,k,h=>by
  unfold lb at h
  by_cases hx:x<g
  · rw[List.takeWhile_cons_of_pos (by simpa using hx)] at h
    cases k with
    | zero=>simpa using hx
    | succ k=>simpa using lb_lt g rs k (by unfold lb;simpa using h)
  · rw[List.takeWhile_cons_of_neg (by simpa using hx)] at h
    simp at h
theorem lb_ge (g:Int):∀(rs:List Int) (k:Nat),rs.Pairwise (· ≤ ·)→lb rs g≤k→k<rs.length→g≤rs.getD k 0
 | [],k,_,_,h=>by simp at h
 | x::rs,k,hs,h,hk=>by
  unfold lb at h
  by_cases hx:x<g
  · rw[List.takeWhile_cons_of_pos (by simpa using hx)] at h
    cases k with
    | zero=>simp at h
    | succ k=>simpa using lb_ge g rs k hs.of_cons (by unfold lb;simpa using h) (by simpa using hk)
  · have hx:g≤x:=by omega
    cases k with
    | zero=>simpa using hx
    | succ k=>
     have hk:k<rs.length:=by simpa using hk
     have:=(List.pairwise_cons.1 hs).1 (rs[k]) (List.getElem_mem hk)
     have e:(x::rs).getD (k+1) 0=rs[k]:=by simp[List.getD,hk]
     rw[e]
     exact Int.le_trans hx this
theorem uwrap_id (x:Int) (h:0≤x∧x<18446744073709551616):IntKind.wrap .u64 x=x:=by
 simp[IntKind.wrap,IntKind.signed,IntKind.bits]
 omega
theorem half_eq (i j:Nat) (h:i+j<4611686018427387904):IntKind.wrap .i64 ((IntKind.wrap .u64 (IntKind.wrap .i64 ((i:Int)+j))).fdiv 2)=(((i+j) / 2:Nat):Int):=by
 rw[wrap_id ((i:Int)+j) (by omega),uwrap_id _ (by omega)]
 have:((i:Int)+j).fdiv 2=(((i+j) / 2:Nat):Int):=by
  rw[Int.fdiv_eq_ediv_of_nonneg _ (by omega)];omega
 rw[this,wrap_id _ (by omega)]
def con30:List AV→Option Tells
 | [.list 3 (.int .i64) rs,.int .i64 g]=>some ⟨[rs.length≤1099511627776,rs.Pairwise (· ≤ ·)],.tuple (.cons (.int .i64 (lb rs g:Int)) (.cons (.bool (fnd rs g)) .nl)),[]⟩
 | _=>none
def f30_live1:List Nat:=[7,8,7,8,0,1,7,7,6,0,7,1,0,7,1,4,5]
def f30_head1 (rs:List KI.den) (g:Int) (s7:Int) (s8:Int):St:={slots:=[AV.list 3 KI rs,AV.int .i64 g,AV.undef,AV.undef,AV.int .i64 0,AV.bool false,AV.int .i64 (↑rs.length:Int),AV.int .i64 s7,AV.int .i64 s8]++List.replicate 45 AV.undef,obs:=[]}
def f30_q1 (R:AV→List Ob→Prop):Ex→St→Prop:=blockA 0 (seqQ tab eD2 (subC [1,1,1,1] (bodyOf Tryd.f30)) [4,5] (endA tab Tryd.f30 R))
def f30_loop1 (R:AV→List Ob→Prop) (rs:List KI.den) (g:Int) (s7:Int) (s8:Int):Prop:=loopT f30_live1 (codeA tab eD2 (subC [1,1,1,0,0,0] (bodyOf Tryd.f30)) f30_live1) (f30_head1 rs g s7 s8) (f30_q1 R)
def f30_rhs1 (R:AV→List Ob→Prop) (rs:List KI.den) (g:Int) (J:St→Prop) (s7:Int) (s8:Int):Prop:=bif decide (s7<s8) then (0:Int)≤1∧0≤IntKind.i64.wrap ((IntKind.u64.wrap (IntKind.i64.wrap (s7+s8))).fdiv 2)∧IntKind.i64.wrap ((IntKind.u64.wrap (IntKind.i64.wrap (s7+s8))).fdiv 2)<(↑rs.length:Int)∧bif decide (rs.getD (IntKind.i64.wrap ((IntKind.u64.wrap (IntKind.i64.wrap (s7+s8))).fdiv 2)).toNat 0<g) then J (f30_head1 rs g (IntKind.i64.wrap (IntKind.i64.wrap ((IntKind.u64.wrap (IntKind.i64.wrap (s7+s8))).fdiv 2)+1)) s8) else J (f30_head1 rs g s7 (IntKind.i64.wrap ((IntKind.u64.wrap (IntKind.i64.wrap (s7+s8))).fdiv 2))) else bif decide (s7<(↑rs.length:Int)) then 0≤s7∧s7<(↑rs.length:Int)∧bif !rs.getD s7.toNat 0==g then 0≤s7∧s7<(↑rs.length:Int)∧R ((AV.int .i64 s7).cons ((AV.bool false).cons AV.nl)).tuple [] else R ((AV.int .i64 s7).cons ((AV.bool true).cons AV.nl)).tuple [] else R ((AV.int .i64 s7).cons ((AV.bool false).cons AV.nl)).tuple []
theorem f30_eq1 (R:AV→List Ob→Prop) (rs:List KI.den) (g:Int) (J:St→Prop) (s7:Int) (s8:Int):codeA tab eD2 (subC [1,1,1,0,0,0] (bodyOf Tryd.f30)) f30_live1 (f30_head1 rs g s7 s8) (thenA (fun s=>J (St.tidy f30_live1 s)) (f30_q1 R))=f30_rhs1 R rs g J s7 s8:=by kernel_rfl
set_option maxHeartbeats 2000000 in
theorem f30_rule1 (R:AV→List Ob→Prop) (rs:List KI.den) (g:Int) (I:Nat→(Int)→(Int)→Prop) (n:Nat) (s7:Int) (s8:Int) (h0:I n s7 s8) (h:∀n,∀(s7:Int) (s8:Int),I n s7 s8→f30_rhs1 R rs g (fun t=>∃m,m<n∧∃(s7:Int) (s8:Int),t=f30_head1 rs g s7 s8∧I m s7 s8) s7 s8):f30_loop1 R rs g s7 s8:=
 loop_intro (fun n t=>∃(s7:Int) (s8:Int),t=f30_head1 rs g s7 s8∧I n s7 s8) n ⟨s7,s8,rfl,h0⟩ (fun n t ht=>by obtain⟨s7,s8,rfl,hI⟩:=ht;exact Eq.mpr (f30_eq1 R rs g (fun t=>∃m,m<n∧∃(s7:Int) (s8:Int),t=f30_head1 rs g s7 s8∧I m s7 s8) s7 s8) (h n s7 s8 hI))
theorem f30_run (R:AV→List Ob→Prop) (rs:List (Ty.int .i64).den) (g:Int):fnA tab eD2 Tryd.f30 (bodyOf Tryd.f30) [.list 3 (.int .i64) rs,.int .i64 g] R=(f30_loop1 R rs g 0 (↑rs.length:Int)):=by kernel_rfl
theorem ok30:ConOk Tryd.prog (30,con30):=by
 intro args t h hp
 change con30 args=some t at h
 unfold con30 at h
 split at h
 · rename_i rs g
   change List (Ty.int .i64).den at rs
   cases h
   refine fn_ok envD2 tab_ok mixed Tryd.func30 (by kernel_rfl) (by kernel_rfl) ?_
   rw[f30_run]
   try dsimp only
   have hl:=hp (rs.length≤1099511627776) (by simp)
   have hs:=hp (rs.Pairwise (· ≤ ·)) (by simp)
   refine f30_rule1 _ rs g (fun n i j=>∃a b:Nat,a≤lb rs g∧lb rs g≤b∧b≤rs.length∧n=b-a∧i=a∧j=b) rs.length 0 _ ⟨0,rs.length,by omega,lb_le rs g,by omega,by omega,rfl,rfl⟩ ?_
   rintro n i j ⟨a,b,ha,hb,hbl,rfl,rfl,rfl⟩
   unfold f30_rhs1
   refine dec_split (fun hlt => ?_) (fun hlt => ?_)
   · have hlt':a<b:=by omega
     rw[half_eq a b (by omega)]
     obtain⟨c,hc⟩:∃c,c=(a+b) / 2:=⟨_,rfl⟩
     rw[←hc]
     have hc1:a≤c∧c<b:=by omega
     refine⟨by omega,by omega,by omega,?_⟩
     rw[Int.toNat_natCast]
     refine dec_split (fun hx => ?_) (fun hx => ?_)
     · refine⟨b-(c+1),by omega,_,_,rfl,c+1,b,?_,hb,hbl,rfl,wrap_next c _ (show c<rs.length by omega) (by simp only[maxLen];omega),rfl⟩
       clear hc
       by_cases h:lb rs g≤c
       · exact absurd hx (Int.not_lt.2 (lb_ge g rs c hs h (by omega)))
       · omega
     · refine⟨c-a,by omega,_,_,rfl,a,c,ha,?_,by omega,rfl,rfl,rfl⟩
       by_cases h:c<lb rs g
       · exact absurd (lb_lt g rs c h) hx
       · omega
   · have e:a=lb rs g:=by omega
     subst e
     unfold fnd
     refine dec_split (fun h1 => ?_) (fun h1 => ?_)
     · have h1':lb rs g<rs.length:=by omega
       rw[Int.toNat_natCast,decide_eq_true h1',Bool.true_and]
       refine⟨by omega,by omega,cond_split (fun h2 => ?_) (fun h2 => ?_)⟩
       · have h2:(rs.getD (lb rs g) 0==g)=false:=by simpa using h2
         rw[h2];exact⟨by omega,by omega,rfl,rfl⟩
       · have h2:(rs.getD (lb rs g) 0==g)=true:=by simpa using h2
         rw[h2];exact⟨rfl,rfl⟩
     · rw[decide_eq_false (show ¬lb rs g<rs.length by omega),Bool.false_and];exact⟨rfl,rfl⟩
 · cases h
def consD3:Cons:=(30,con30)::consD2
def twosD3:Cons2:=twosD2
def pansD3:Cons3:=pansD2
def itersD3:Cons4:=itersD2
theorem allconsD3:∀c∈consD3,ConOk Tryd.prog c:=all_cons ok30 allconsD2
theorem alltwosD3:∀c∈twosD3,ConOk2 Tryd.prog c:=alltwosD2
theorem allpansD3:∀c∈pansD3,ConOk3 Tryd.prog c:=allpansD2
theorem allitersD3:∀c∈itersD3,ConOk4 Tryd.prog c:=allitersD2
def con26:List AV→Option Tells
 | [.list 34 (.pair (.int .i64) (.pair (.int .i64) (.pair (.int .i64) (.int .i64)))) xs]=>some ⟨[xs.length*32≤140737488355328],.list 34 T4 xs,[]⟩
 | _=>none
theorem f26_run (R:AV→List Ob→Prop) (xs:List T4.den):fnA tab eD2 Tryd.f26 (bodyOf Tryd.f26) [.list 34 T4 xs] R=((xs=[]→R (AV.row 0) [Ob.row 34 (KI.pair (KI.pair (KI.pair KI))) []])∧(0+xs.length)*32≤140737488355328∧R (AV.row 0) [Ob.row 34 (KI.pair (KI.pair (KI.pair KI))) xs]):=by kernel_rfl
theorem ok26:ConOk Tryd.prog (26,con26):=by
 intro args t h hp
 change con26 args=some t at h
 unfold con26 at h
 split at h
 · rename_i xs
   change List T4.den at xs
   cases h
   refine fn_okF envD2 tab_ok mixed Tryd.func26 (by kernel_rfl) (by kernel_rfl) ?_
   rw[f26_run]
   try dsimp only
   have h0:=hp (xs.length*32≤140737488355328) (by simp)
   exact⟨fun e=>by subst e;exact .row 0 34 T4 [] rfl,by omega,.row 0 34 T4 xs rfl⟩
 · cases h
def con10:List AV→Option Tells
 | [.list 9 .str xs,.list 9 .str ys]=>some ⟨[xs.length≤maxLen],.bool (decide (xs=ys)),[]⟩
 | _=>none
def f10_live1:List Nat:=[13,12,13,0,1,13,4]
def f10_head1 (xs:List Ty.str.den) (ys:List Ty.str.den) (s13:Int):St:={slots:=[AV.list 9 Ty.str xs,AV.list 9 Ty.str ys,AV.undef,AV.undef,AV.bool false]++List.replicate 7 AV.undef++[AV.int .i64 (↑xs.length:Int),AV.int .i64 s13]++List.replicate 12 AV.undef,obs:=[]}
def f10_q1 (R:AV→List Ob→Prop):Ex→St→Prop:=blockA 0 (seqQ tab eD2 (subC [1,1,1] (bodyOf Tryd.f10)) [4] (endA tab Tryd.f10 R))
def f10_loop1 (R:AV→List Ob→Prop) (xs:List Ty.str.den) (ys:List Ty.str.den) (s13:Int):Prop:=loopT f10_live1 (codeA tab eD2 (subC [1,1,0,1,0,0] (bodyOf Tryd.f10)) f10_live1) (f10_head1 xs ys s13) (f10_q1 R)
def f10_rhs1 (R:AV→List Ob→Prop) (xs:List Ty.str.den) (ys:List Ty.str.den) (J:St→Prop) (s13:Int):Prop:=bif decide (s13<(↑xs.length:Int)) then 0≤s13∧s13<(↑xs.length:Int)∧0≤s13∧s13<(↑ys.length:Int)∧bif !ByteArray.toList (xs.getD s13.toNat {data := #[]})==ByteArray.toList (ys.getD s13.toNat {data := #[]}) then R (AV.bool false) [] else J (f10_head1 xs ys (IntKind.i64.wrap (s13+1))) else R (AV.bool true) []
theorem f10_eq1 (R:AV→List Ob→Prop) (xs:List Ty.str.den) (ys:List Ty.str.den) (J:St→Prop) (s13:Int):codeA tab eD2 (subC [1,1,0,1,0,0] (bodyOf Tryd.f10)) f10_live1 (f10_head1 xs ys s13) (thenA (fun s=>J (St.tidy f10_live1 s)) (f10_q1 R))=f10_rhs1 R xs ys J s13:=by kernel_rfl
set_option maxHeartbeats 2000000 in
theorem f10_rule1 (R:AV→List Ob→Prop) (xs:List Ty.str.den) (ys:List Ty.str.den) (I:Nat→(Int)→Prop) (n:Nat) (s13:Int) (h0:I n s13) (h:∀n,∀(s13:Int),I n s13→f10_rhs1 R xs ys (fun t=>∃m,m<n∧∃(s13:Int),t=f10_head1 xs ys s13∧I m s13) s13):f10_loop1 R xs ys s13:=
 loop_intro (fun n t=>∃(s13:Int),t=f10_head1 xs ys s13∧I n s13) n ⟨s13,rfl,h0⟩ (fun n t ht=>by obtain⟨s13,rfl,hI⟩:=ht;exact Eq.mpr (f10_eq1 R xs ys (fun t=>∃m,m<n∧∃(s13:Int),t=f10_head1 xs ys s13∧I m s13) s13) (h n s13 hI))
theorem f10_run (R:AV→List Ob→Prop) (xs ys:List (Ty.str).den):fnA tab eD2 Tryd.f10 (bodyOf Tryd.f10) [.list 9 .str xs,.list 9 .str ys] R=(bif (↑xs.length:Int) != (↑ys.length:Int) then R (AV.bool false) [] else f10_loop1 R xs ys 0):=by kernel_rfl
theorem ok10:ConOk Tryd.prog (10,con10):=by
 intro args t h hp
 change con10 args=some t at h
 unfold con10 at h
 split at h
 · rename_i xs ys
   change List (Ty.str).den at xs
   change List (Ty.str).den at ys
   cases h
   refine fn_ok envD2 tab_ok mixed Tryd.func10 (by kernel_rfl) (by kernel_rfl) ?_
   rw[f10_run]
   try dsimp only
   have hx:=hp (xs.length≤maxLen) (by simp)
   refine cond_split (fun h=>⟨?_,rfl⟩) (fun h => ?_)
   · have:xs≠ys:=fun e=>by rw[e] at h;simp at h
     rw[decide_eq_false this]
   have hl:xs.length=ys.length:=by simp at h;omega
   refine f10_rule1 _ xs ys (fun n i=>∃k:Nat,k≤xs.length∧n=xs.length-k∧i=k∧xs.take k=ys.take k) xs.length 0 ⟨0,by omega,by simp,rfl,by simp⟩ ?_
   rintro n i ⟨k,hk,rfl,rfl,htk⟩
   unfold f10_rhs1
   refine dec_split (fun hlt=>⟨by omega,hlt,by omega,by omega,?_⟩) (fun hlt => ?_)
   · have hlt':k<xs.length:=by omega
     rw[getD_nat xs _ k hlt',getD_nat ys _ k (by omega),bytes_eq]
     refine cond_split (fun hc=>⟨?_,rfl⟩) (fun hc=>⟨xs.length-(k+1),by omega,_,rfl,k+1,by omega,rfl,wrap_next k _ hlt' hx,?_⟩)
     · have:xs≠ys:=fun e=>by subst e;simp at hc
       rw[decide_eq_false this]
     · rw[take_next xs k hlt',take_next ys k (by omega),htk]
       simp at hc
       rw[hc]
   · have e:xs=ys:=by
      rw[List.take_of_length_le (by omega),List.take_of_length_le (by omega)] at htk
      exact htk
     rw[decide_eq_true e]
     exact⟨rfl,rfl⟩
 · cases h
def small (xs:List Int):Bool:=xs.all fun x=>decide (-1152921504606846976≤x)&&decide (x≤1152921504606846976)
def con8:List AV→Option Tells
 | [.list 3 (.int .i64) xs]=>some ⟨[xs.length≤maxLen],.bool (small xs),[]⟩
 | _=>none
def f8_live1:List Nat:=[3,0,0,3,0,3,3,2]
def f8_head1 (xs:List Int) (s3:Int):St:={slots:=[AV.list 3 KI xs,AV.undef,AV.bool false,AV.int .i64 s3]++List.replicate 18 AV.undef,obs:=[]}
def f8_q1 (R:AV→List Ob→Prop):Ex→St→Prop:=blockA 0 (seqQ tab eD2 (subC [1,1] (bodyOf Tryd.f8)) [2] (endA tab Tryd.f8 R))
def f8_loop1 (R:AV→List Ob→Prop) (xs:List Int) (s3:Int):Prop:=loopT f8_live1 (codeA tab eD2 (subC [1,0,1,0,0] (bodyOf Tryd.f8)) f8_live1) (f8_head1 xs s3) (f8_q1 R)
def f8_rhs1 (R:AV→List Ob→Prop) (xs:List Int) (J:St→Prop) (s3:Int):Prop:=bif decide (s3<(↑xs.length:Int)) then 0≤s3∧s3<(↑xs.length:Int)∧bif !decide (xs.getD s3.toNat 0 < -1152921504606846976) then 0≤s3∧s3<(↑xs.length:Int)∧bif decide (xs.getD s3.toNat 0>1152921504606846976) then R (AV.bool false) [] else J (f8_head1 xs (IntKind.i64.wrap (s3+1))) else R (AV.bool false) [] else R (AV.bool true) []
theorem f8_eq1 (R:AV→List Ob→Prop) (xs:List Int) (J:St→Prop) (s3:Int):codeA tab eD2 (subC [1,0,1,0,0] (bodyOf Tryd.f8)) f8_live1 (f8_head1 xs s3) (thenA (fun s=>J (St.tidy f8_live1 s)) (f8_q1 R))=f8_rhs1 R xs J s3:=by kernel_rfl
set_option maxHeartbeats 2000000 in
theorem f8_rule1 (R:AV→List Ob→Prop) (xs:List Int) (I:Nat→(Int)→Prop) (n:Nat) (s3:Int) (h0:I n s3) (h:∀n,∀(s3:Int),I n s3→f8_rhs1 R xs (fun t=>∃m,m<n∧∃(s3:Int),t=f8_head1 xs s3∧I m s3) s3):f8_loop1 R xs s3:=
 loop_intro (fun n t=>∃(s3:Int),t=f8_head1 xs s3∧I n s3) n ⟨s3,rfl,h0⟩ (fun n t ht=>by obtain⟨s3,rfl,hI⟩:=ht;exact Eq.mpr (f8_eq1 R xs (fun t=>∃m,m<n∧∃(s3:Int),t=f8_head1 xs s3∧I m s3) s3) (h n s3 hI))
theorem f8_run (R:AV→List Ob→Prop) (xs:List Int):fnA tab eD2 Tryd.f8 (bodyOf Tryd.f8) [.list 3 (.int .i64) xs] R=(f8_loop1 R xs 0):=by kernel_rfl
theorem ok8:ConOk Tryd.prog (8,con8):=by
 intro args t h hp
 change con8 args=some t at h
 unfold con8 at h
 split at h
 · rename_i xs
   change List Int at xs
   cases h
   refine fn_ok envD2 tab_ok mixed Tryd.func8 (by kernel_rfl) (by kernel_rfl) ?_
   rw[f8_run]
   try dsimp only
   have hm:=hp (xs.length≤maxLen) (by simp)
   refine f8_rule1 _ xs (fun n i=>∃k:Nat,k≤xs.length∧n=xs.length-k∧i=k∧small (xs.take k)=true) xs.length 0 ⟨0,by omega,by simp,rfl,by simp[small]⟩ ?_
   rintro n i ⟨k,hk,rfl,rfl,hs⟩
   unfold f8_rhs1
   refine dec_split (fun hlt=>⟨by omega,hlt,?_⟩) (fun hlt => ?_)
   · have hlt':k<xs.length:=by omega
     have hbad:(xs[k] < -1152921504606846976∨xs[k]>1152921504606846976)→small xs=false:=by
      intro h
      rw[Bool.eq_false_iff]
      intro h2
      have:=List.all_eq_true.1 h2 xs[k] (List.getElem_mem hlt')
      simp at this
      omega
     rw[getD_nat xs _ k hlt']
     refine ndec_split (fun h1=>⟨by omega,hlt,dec_split (fun h2=>⟨by rw[hbad (.inr h2)],rfl⟩) (fun h2 => ?_)⟩) (fun h1=>⟨by rw[hbad (.inl h1)],rfl⟩)
     rw[wrap_next k _ hlt' hm]
     refine⟨xs.length-(k+1),by omega,_,rfl,k+1,by omega,rfl,rfl,?_⟩
     rw[take_next xs k hlt',small,List.all_append,Bool.and_eq_true]
     refine⟨hs,?_⟩
     simp
     omega
   · rw[take_all xs k (by omega)] at hs
     exact⟨by rw[hs],rfl⟩
 · cases h
def hasP (r:Rc4) (x y:Int):Bool:=decide (r.1≤x)&&decide (x<r.2.2.1)&&(decide (r.2.1≤y)&&decide (y<r.2.2.2))
def con13:List AV→Option Tells
 | [.agg (.cons (.int .i64 a) (.cons (.int .i64 b) (.cons (.int .i64 c) (.cons (.int .i64 d) .nl)))),.int .i64 x,.int .i64 y]=>some ⟨[],.bool (hasP (a,b,c,d) x y),[]⟩
 | _=>none
theorem f13_run (R:AV→List Ob→Prop) (a b c d x y:Int):fnA tab eD2 Tryd.f13 (bodyOf Tryd.f13) [.agg (.cons (.int .i64 a) (.cons (.int .i64 b) (.cons (.int .i64 c) (.cons (.int .i64 d) .nl)))),.int .i64 x,.int .i64 y] R=((0:Int)≤0∧(0:Int)<4∧bif decide (x≥a) then (0:Int)≤2∧(2:Int)<4∧bif decide (x<c) then (0:Int)≤1∧(1:Int)<4∧bif decide (y≥b) then (0:Int)≤3∧(3:Int)<4∧R (AV.bool (decide (y<d))) [] else R (AV.bool false) [] else R (AV.bool false) [] else R (AV.bool false) []):=by kernel_rfl
theorem ok13:ConOk Tryd.prog (13,con13):=by
 intro args t h hp
 change con13 args=some t at h
 unfold con13 at h
 split at h
 · rename_i a b c d x y
   cases h
   refine fn_ok envD2 tab_ok mixed Tryd.func13 (by kernel_rfl) (by kernel_rfl) ?_
   rw[f13_run]
   try dsimp only
   unfold hasP
   refine⟨by omega,by omega,dec_split (fun h1=>⟨by omega,by omega,dec_split (fun h2=>⟨by omega,by omega,dec_split (fun h3=>⟨by omega,by omega,?_,rfl⟩) (fun h3=>⟨?_,rfl⟩)⟩) (fun h2=>⟨?_,rfl⟩)⟩) (fun h1=>⟨?_,rfl⟩)⟩
   · simp[h2,show a≤x by omega,show b≤y by omega]
   · simp[show ¬b≤y by omega]
   · simp[h2]
   · simp[show ¬a≤x by omega]
 · cases h
def consD4:Cons:=(10,con10)::(8,con8)::(13,con13)::(26,con26)::consD3
def twosD4:Cons2:=twosD3
def pansD4:Cons3:=pansD3
def itersD4:Cons4:=itersD3
abbrev eD4:Env:=envOf4 consD4 twosD4 pansD4 itersD4
theorem allconsD4:∀c∈consD4,ConOk Tryd.prog c:=all_cons ok10 (all_cons ok8 (all_cons ok13 (all_cons ok26 allconsD3)))
theorem alltwosD4:∀c∈twosD4,ConOk2 Tryd.prog c:=alltwosD3
theorem allpansD4:∀c∈pansD4,ConOk3 Tryd.prog c:=allpansD3
theorem allitersD4:∀c∈itersD4,ConOk4 Tryd.prog c:=allitersD3
theorem envD4:EnvOk Tryd.prog eD4:=envOf4_ok _ _ _ _ allconsD4 alltwosD4 allpansD4 allitersD4
end Go.Proofs.YtkpjcmiijlpcaaaDoor.W
set_option linter.unusedVariables false
set_option linter.unusedSimpArgs false
namespace Go.Proofs.YtkpjcmiijlpcaaaDoor.W
open Go Go.Proofs Go.RowKit Go.Lib Go.Proofs.YtkpjcmiijlpcaaaDoor.Aw
set_option maxHeartbeats 2000000 in
set_option maxRecDepth 100000 in
theorem copy_used (b:Nat) (w:World) (h0:w.cell? ⟨b,0,none⟩=some (.pointer (some ⟨b,0,none⟩))) :
 Calls Tryd.prog 33 #[.pointer (some ⟨b,0,none⟩)] w fun e w'=>e=.returned (.tuple #[])∧w'=w:=by
 have hj:Tryd.prog.info? 58=some (Tryd.prog.info? 58).get! := by kernel_rfl
 have mixed:=mixed
 have t58:=Tryd.underlying58;have a58:=Tryd.isAgg58;have z58:=Tryd.sizeOf58;have v58:=Tryd.zeroValue58;have u58:=run_underlying Tryd.underlying58
 have t55:=Tryd.underlying55;have a55:=Tryd.isAgg55;have z55:=Tryd.sizeOf55;have v55:=Tryd.zeroValue55;have u55:=run_underlying Tryd.underlying55
 have t4:=Tryd.underlying4;have a4:=Tryd.isAgg4;have z4:=Tryd.sizeOf4;have v4:=Tryd.zeroValue4;have u4:=run_underlying Tryd.underlying4
 have t100:=Tryd.underlying100;have a100:=Tryd.isAgg100;have z100:=Tryd.sizeOf100;have v100:=Tryd.zeroValue100;have u100:=run_underlying Tryd.underlying100
 go_enter Tryd.func33,Tryd.ntmps33
 go_wp2
 rw[Lib.run_neq_ptr_same w _ Tryd.underlying55 hj]
 go_wp2
 go_end0
 exact⟨rfl,rfl⟩
set_option maxHeartbeats 2000000 in
set_option maxRecDepth 100000 in
theorem copy_fresh (b:Nat) (w:World) (h0:w.cell? ⟨b,0,none⟩=some (.pointer none)) (hsh:w.shape? b=some (58,2)) (hfz:w.frozen? ⟨b,0,none⟩=false) :
 Calls Tryd.prog 33 #[.pointer (some ⟨b,0,none⟩)] w fun e w'=>e=.returned (.tuple #[])∧w'=w.setCell ⟨b,0,none⟩ (.pointer (some ⟨b,0,none⟩)):=by
 have hj:Tryd.prog.info? 58=some (Tryd.prog.info? 58).get! := by kernel_rfl
 have hjs:((Tryd.prog.info? 58).get!).size=2:=by kernel_rfl
 have mixed:=mixed
 have t58:=Tryd.underlying58;have a58:=Tryd.isAgg58;have z58:=Tryd.sizeOf58;have v58:=Tryd.zeroValue58;have u58:=run_underlying Tryd.underlying58
 have t55:=Tryd.underlying55;have a55:=Tryd.isAgg55;have z55:=Tryd.sizeOf55;have v55:=Tryd.zeroValue55;have u55:=run_underlying Tryd.underlying55
 have t4:=Tryd.underlying4;have a4:=Tryd.isAgg4;have z4:=Tryd.sizeOf4;have v4:=Tryd.zeroValue4;have u4:=run_underlying Tryd.underlying4
 have t100:=Tryd.underlying100;have a100:=Tryd.isAgg100;have z100:=Tryd.sizeOf100;have v100:=Tryd.zeroValue100;have u100:=run_underlying Tryd.underlying100
 go_enter Tryd.func33,Tryd.ntmps33
 go_wp2
 rw[Lib.run_to_unsafe w ⟨b,0,none⟩ Tryd.underlying55 Tryd.underlying100 hj (by rw[hjs];decide) hsh (Nat.zero_lt_succ 1)]
 simp only[Result.andThen]
 rw[Oper.upon_value]
 go_wp2
 rw[run_callFunc_extern Tryd.func49 (by kernel_rfl) (by kernel_rfl) (by kernel_rfl) (e:=Extern.AbiNoEscape.same) (by kernel_rfl)]
 rw[Lib.run_noEscape]
 simp only[Result.andThen]
 rw[Oper.upon_value]
 go_wp2
 rw[Lib.run_from_unsafe w ⟨b,0,none⟩ Tryd.underlying100 Tryd.underlying55 hj hsh (by kernel_rfl)]
 simp only[Result.andThen]
 rw[Oper.upon_value]
 go_wp2
 go_end0
 exact⟨rfl,rfl⟩
set_option maxHeartbeats 2000000 in
set_option maxRecDepth 100000 in
theorem str_some (b g cap:Nat) (p:Value) (cur:Array Value) (l:List UInt8) (w:World) (h0:l≠[]) (hbk:w.heap[b]? = some (.cells #[p,.slice (some ⟨g,0,none⟩) l.length cap] 58 (0,0)))
 (hg:w.heap[g]? = some (.cells cur 5 (0,0))) (hc:l.length≤cap) (hm:cap≤maxLen) (hs:cur.size=cap) (hb:∀(j:Nat) (x:UInt8),l[j]? = some x→cur[j]? = some (Value.int .u8 x.toNat)) :
 Calls Tryd.prog 21 #[.pointer (some ⟨b,0,none⟩)] w fun e w'=>e=.returned (.string ⟨l.toArray⟩)∧w'=w.drew.freeze ⟨g,0,none⟩ l.length:=by
 have hl0:l.length≠0:=by simpa using h0
 have c1:w.drew.cell? ⟨b,1,none⟩=some (.slice (some ⟨g,0,none⟩) l.length cap):=by
  have:w.drew.heap[b]? = some (.cells #[p,.slice (some ⟨g,0,none⟩) l.length cap] 58 (0,0)):=hbk
  rw[Lib.cell_of_heap this];rfl
 have hg':w.drew.heap[g]? = some (.cells cur 5 (0,0)):=hg
 have hSD:(Builtin.unsafeSliceData_ #[56] 88 #[.slice (some ⟨g,0,none⟩) l.length cap]).run Tryd.prog w.drew=.ok (.pointer (some ⟨g,0,none⟩)) w.drew:=
  Lib.run_unsafeSliceData_row _ _ _ _ _ _ (by omega)
 have hUS:(Builtin.unsafeString_ #[88,3] 9 #[.pointer (some ⟨g,0,none⟩),.int .i64 l.length]).run Tryd.prog w.drew=.ok (.string ⟨l.toArray⟩) (w.drew.freeze ⟨g,0,none⟩ l.length):=by
  refine Lib.run_unsafeString_row w.drew 88 3 9 5 Tryd.underlying88 (by kernel_rfl) g cur.size (by simp[World.shape?,hg']) l h0 (by omega) (by unfold maxLen at hm;omega) ?_
  intro j x hx
  rw[add_lit,Nat.zero_add,Lib.cell_of_heap hg']
  exact hb j x hx
 have mixed:=mixed
 have t58:=Tryd.underlying58;have a58:=Tryd.isAgg58;have z58:=Tryd.sizeOf58;have v58:=Tryd.zeroValue58;have u58:=run_underlying Tryd.underlying58
 have t55:=Tryd.underlying55;have a55:=Tryd.isAgg55;have z55:=Tryd.sizeOf55;have v55:=Tryd.zeroValue55;have u55:=run_underlying Tryd.underlying55
 have t56:=Tryd.underlying56;have a56:=Tryd.isAgg56;have z56:=Tryd.sizeOf56;have v56:=Tryd.zeroValue56;have u56:=run_underlying Tryd.underlying56
 have t88:=Tryd.underlying88;have a88:=Tryd.isAgg88;have z88:=Tryd.sizeOf88;have v88:=Tryd.zeroValue88;have u88:=run_underlying Tryd.underlying88
 have t3:=Tryd.underlying3;have a3:=Tryd.isAgg3;have z3:=Tryd.sizeOf3;have v3:=Tryd.zeroValue3;have u3:=run_underlying Tryd.underlying3
 have t9:=Tryd.underlying9;have a9:=Tryd.isAgg9;have z9:=Tryd.sizeOf9;have v9:=Tryd.zeroValue9;have u9:=run_underlying Tryd.underlying9
 have t5:=Tryd.underlying5;have a5:=Tryd.isAgg5;have z5:=Tryd.sizeOf5;have v5:=Tryd.zeroValue5;have u5:=run_underlying Tryd.underlying5
 go_enter Tryd.func21,Tryd.ntmps21
 go_wp2
 go_region_o
 all_goals (go_wp2;go_ret;exact⟨rfl,rfl⟩)
set_option maxHeartbeats 2000000 in
set_option maxRecDepth 100000 in
theorem str_nil (b:Nat) (p:Value) (w:World) (hbk:w.heap[b]? = some (.cells #[p,.slice none 0 0] 58 (0,0))) :
 Calls Tryd.prog 21 #[.pointer (some ⟨b,0,none⟩)] w fun e w'=>e=.returned (.string ⟨#[]⟩)∧w'=w.drew:=by
 have hUS:∀W q,(Builtin.unsafeString_ #[88,3] 9 #[.pointer q,.int .i64 0]).run Tryd.prog W=.ok (.string .empty) W:=fun W q=>Lib.run_unsafeString_none W _ _ _ q
 have c1:w.drew.cell? ⟨b,1,none⟩=some (.slice none 0 0):=by
  have:w.drew.heap[b]? = some (.cells #[p,.slice none 0 0] 58 (0,0)):=hbk
  rw[Lib.cell_of_heap this];rfl
 have hSD:(Builtin.unsafeSliceData_ #[56] 88 #[.slice none 0 0]).run Tryd.prog w.drew=.ok (.pointer none) w.drew:=rfl
 have mixed:=mixed
 have t58:=Tryd.underlying58;have a58:=Tryd.isAgg58;have z58:=Tryd.sizeOf58;have v58:=Tryd.zeroValue58;have u58:=run_underlying Tryd.underlying58
 have t55:=Tryd.underlying55;have a55:=Tryd.isAgg55;have z55:=Tryd.sizeOf55;have v55:=Tryd.zeroValue55;have u55:=run_underlying Tryd.underlying55
 have t56:=Tryd.underlying56;have a56:=Tryd.isAgg56;have z56:=Tryd.sizeOf56;have v56:=Tryd.zeroValue56;have u56:=run_underlying Tryd.underlying56
 have t88:=Tryd.underlying88;have a88:=Tryd.isAgg88;have z88:=Tryd.sizeOf88;have v88:=Tryd.zeroValue88;have u88:=run_underlying Tryd.underlying88
 have t3:=Tryd.underlying3;have a3:=Tryd.isAgg3;have z3:=Tryd.sizeOf3;have v3:=Tryd.zeroValue3;have u3:=run_underlying Tryd.underlying3
 have t9:=Tryd.underlying9;have a9:=Tryd.isAgg9;have z9:=Tryd.sizeOf9;have v9:=Tryd.zeroValue9;have u9:=run_underlying Tryd.underlying9
 have t5:=Tryd.underlying5;have a5:=Tryd.isAgg5;have z5:=Tryd.sizeOf5;have v5:=Tryd.zeroValue5;have u5:=run_underlying Tryd.underlying5
 go_enter Tryd.func21,Tryd.ntmps21
 go_wp2
 go_region_o
 all_goals (go_wp2;go_ret;exact⟨rfl,rfl⟩)
set_option maxHeartbeats 2000000 in
set_option maxRecDepth 100000 in
theorem str_room (b g cap:Nat) (p:Value) (w:World) (hc0:cap≠0) (hbk:w.heap[b]? = some (.cells #[p,.slice (some ⟨g,0,none⟩) 0 cap] 58 (0,0))) :
 Calls Tryd.prog 21 #[.pointer (some ⟨b,0,none⟩)] w fun e w'=>e=.returned (.string ⟨#[]⟩)∧w'=w.drew:=by
 have hUS:∀W q,(Builtin.unsafeString_ #[88,3] 9 #[.pointer q,.int .i64 0]).run Tryd.prog W=.ok (.string .empty) W:=fun W q=>Lib.run_unsafeString_none W _ _ _ q
 have c1:w.drew.cell? ⟨b,1,none⟩=some (.slice (some ⟨g,0,none⟩) 0 cap):=by
  have:w.drew.heap[b]? = some (.cells #[p,.slice (some ⟨g,0,none⟩) 0 cap] 58 (0,0)):=hbk
  rw[Lib.cell_of_heap this];rfl
 have hSD:(Builtin.unsafeSliceData_ #[56] 88 #[.slice (some ⟨g,0,none⟩) 0 cap]).run Tryd.prog w.drew=.ok (.pointer (some ⟨g,0,none⟩)) w.drew:=
  Lib.run_unsafeSliceData_row _ _ _ _ _ _ hc0
 clear hc0
 have mixed:=mixed
 have t58:=Tryd.underlying58;have a58:=Tryd.isAgg58;have z58:=Tryd.sizeOf58;have v58:=Tryd.zeroValue58;have u58:=run_underlying Tryd.underlying58
 have t55:=Tryd.underlying55;have a55:=Tryd.isAgg55;have z55:=Tryd.sizeOf55;have v55:=Tryd.zeroValue55;have u55:=run_underlying Tryd.underlying55
 have t56:=Tryd.underlying56;have a56:=Tryd.isAgg56;have z56:=Tryd.sizeOf56;have v56:=Tryd.zeroValue56;have u56:=run_underlying Tryd.underlying56
 have t88:=Tryd.underlying88;have a88:=Tryd.isAgg88;have z88:=Tryd.sizeOf88;have v88:=Tryd.zeroValue88;have u88:=run_underlying Tryd.underlying88
 have t3:=Tryd.underlying3;have a3:=Tryd.isAgg3;have z3:=Tryd.sizeOf3;have v3:=Tryd.zeroValue3;have u3:=run_underlying Tryd.underlying3
 have t9:=Tryd.underlying9;have a9:=Tryd.isAgg9;have z9:=Tryd.sizeOf9;have v9:=Tryd.zeroValue9;have u9:=run_underlying Tryd.underlying9
 have t5:=Tryd.underlying5;have a5:=Tryd.isAgg5;have z5:=Tryd.sizeOf5;have v5:=Tryd.zeroValue5;have u5:=run_underlying Tryd.underlying5
 go_enter Tryd.func21,Tryd.ntmps21
 go_wp2
 go_region_o
 all_goals (go_wp2;go_ret;exact⟨rfl,rfl⟩)
set_option maxHeartbeats 2000000 in
set_option maxRecDepth 100000 in
theorem str_bare (b g:Nat) (p:Value) (cur:Array Value) (w:World) (hbk:w.heap[b]? = some (.cells #[p,.slice (some ⟨g,0,none⟩) 0 0] 58 (0,0))) (hg:w.heap[g]? = some (.cells cur 5 (0,0))) :
 Calls Tryd.prog 21 #[.pointer (some ⟨b,0,none⟩)] w fun e w'=>e=.returned (.string ⟨#[]⟩)∧w'=w.drew.alloc (.view ⟨g,0,none⟩ 5):=by
 have hUS:∀W q,(Builtin.unsafeString_ #[88,3] 9 #[.pointer q,.int .i64 0]).run Tryd.prog W=.ok (.string .empty) W:=fun W q=>Lib.run_unsafeString_none W _ _ _ q
 have hlt:b<w.heap.size:=by
  rcases Nat.lt_or_ge b w.heap.size with h' | h'
  · exact h'
  · simp[Array.getElem?_eq_none h'] at hbk
 have c1:w.drew.cell? ⟨b,1,none⟩=some (.slice (some ⟨g,0,none⟩) 0 0):=by
  have:w.drew.heap[b]? = some (.cells #[p,.slice (some ⟨g,0,none⟩) 0 0] 58 (0,0)):=hbk
  rw[Lib.cell_of_heap this];rfl
 have hSD:(Builtin.unsafeSliceData_ #[56] 88 #[.slice (some ⟨g,0,none⟩) 0 0]).run Tryd.prog w.drew=.ok (.pointer (some ⟨w.drew.heap.size,0,none⟩)) (w.drew.alloc (.view ⟨g,0,none⟩ 5)):=
  Lib.run_unsafeSliceData_zero w.drew _ _ 5 Tryd.underlying88 ⟨g,0,none⟩ 0 (5,cur.size) (by have hg':w.drew.heap[g]? = some (.cells cur 5 (0,0)):=hg;simp[World.shape?,hg'])
 have c2:(w.drew.alloc (.view ⟨g,0,none⟩ 5)).cell? ⟨b,1,none⟩=some (.slice (some ⟨g,0,none⟩) 0 0):=by
  have:(w.drew.alloc (.view ⟨g,0,none⟩ 5)).heap[b]? = _:=(Lib.alloc_old w.drew _ b hlt).trans hbk
  rw[Lib.cell_of_heap this];rfl
 have c3:(w.alloc (.view ⟨g,0,none⟩ 5)).drew.cell? ⟨b,1,none⟩=some (.slice (some ⟨g,0,none⟩) 0 0):=c2
 have c0:w.cell? ⟨b,1,none⟩=some (.slice (some ⟨g,0,none⟩) 0 0):=c1
 have mixed:=mixed
 have t58:=Tryd.underlying58;have a58:=Tryd.isAgg58;have z58:=Tryd.sizeOf58;have v58:=Tryd.zeroValue58;have u58:=run_underlying Tryd.underlying58
 have t55:=Tryd.underlying55;have a55:=Tryd.isAgg55;have z55:=Tryd.sizeOf55;have v55:=Tryd.zeroValue55;have u55:=run_underlying Tryd.underlying55
 have t56:=Tryd.underlying56;have a56:=Tryd.isAgg56;have z56:=Tryd.sizeOf56;have v56:=Tryd.zeroValue56;have u56:=run_underlying Tryd.underlying56
 have t88:=Tryd.underlying88;have a88:=Tryd.isAgg88;have z88:=Tryd.sizeOf88;have v88:=Tryd.zeroValue88;have u88:=run_underlying Tryd.underlying88
 have t3:=Tryd.underlying3;have a3:=Tryd.isAgg3;have z3:=Tryd.sizeOf3;have v3:=Tryd.zeroValue3;have u3:=run_underlying Tryd.underlying3
 have t9:=Tryd.underlying9;have a9:=Tryd.isAgg9;have z9:=Tryd.sizeOf9;have v9:=Tryd.zeroValue9;have u9:=run_underlying Tryd.underlying9
 have t5:=Tryd.underlying5;have a5:=Tryd.isAgg5;have z5:=Tryd.sizeOf5;have v5:=Tryd.zeroValue5;have u5:=run_underlying Tryd.underlying5
 go_enter Tryd.func21,Tryd.ntmps21
 go_wp2
 go_region_o
 all_goals (go_wp2;go_ret;exact⟨rfl,rfl⟩)
end Go.Proofs.YtkpjcmiijlpcaaaDoor.W
