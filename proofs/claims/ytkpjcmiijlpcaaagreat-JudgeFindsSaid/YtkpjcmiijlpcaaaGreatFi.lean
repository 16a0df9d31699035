/- The functions of layer 20 (judge), and what they come to: all but the order of the faults. -/
import Derived.Test.YtkpjcmiijlpcaaaGreatEa
import Derived.Test.YtkpjcmiijlpcaaaGreatAwAF
import Derived.Test.YtkpjcmiijlpcaaaGreatAwAH
import Derived.Test.YtkpjcmiijlpcaaaGreatFd
import Derived.Test.YtkpjcmiijlpcaaaGreatFe
import Derived.Test.YtkpjcmiijlpcaaaGreatFh
import Derived.KernelRfl
set_option linter.unusedVariables false
set_option linter.unusedSimpArgs false
namespace Go.Proofs.YtkpjcmiijlpcaaaGreat.W
open Go Go.Proofs Go.Proofs.YtkpjcmiijlpcaaaGreat.Aw
noncomputable section
abbrev TL:Ty:=.pair (.int .i64) (.pair T4 (.pair (.int .i64) (.int .i64)))
abbrev TF:Ty:=.pair (.int .i64) (.pair (.int .i64) (.int .i64))
abbrev R4:=Int×Int×Int×Int
abbrev Ln:=Int×R4×Int×Int
abbrev Ft:=Int×Int×Int
def consQ0:Cons:=(13,con13)::(39,con39)::(16,con16)::(44,con44)::(12,con12)::(59,con59)::(41,con41)::(40,con40)::(42,con42)::[]
def twosQ0:Cons2:=[]
def pansQ0:Cons3:=[]
def itersQ0:Cons4:=[]
abbrev eQ0:Env:=envOf4 consQ0 twosQ0 pansQ0 itersQ0
theorem allconsQ0:∀c∈consQ0,ConOk Tryz.prog c:=all_cons ok13 (all_cons ok39 (all_cons ok16 (all_cons ok44 (all_cons ok12 (all_cons ok59 (all_cons ok41 (all_cons ok40 (all_cons ok42 all_nil))))))))
theorem alltwosQ0:∀c∈twosQ0,ConOk2 Tryz.prog c:=all_nil
theorem allpansQ0:∀c∈pansQ0,ConOk3 Tryz.prog c:=all_nil
theorem allitersQ0:∀c∈itersQ0,ConOk4 Tryz.prog c:=all_nil
theorem envQ0:EnvOk Tryz.prog eQ0:=envOf4_ok _ _ _ _ allconsQ0 alltwosQ0 allpansQ0 allitersQ0
def fnd (so:Bool) (f:Ft) (fs:List Ft):List Ft:=bif so then fs++[f] else fs
def con18:List AV→List Ob→Option Tells2
 | [.ptr 0 0,.bool so,.int .i64 a,.int .i64 b,.int .i64 c],[.cells 61 [.lptr 88 (.list 92 (.pair (.pair (.int .i64) (.pair (.int .i64) (.pair (.int .i64) (.pair (.int .i64) (.pair (.int .i64) (.pair (.int .i64) (.pair (.pair (.int .i64) (.pair (.int .i64) (.pair (.int .i64) (.int .i64)))) (.pair (.int .i64) (.pair (.int .i64) (.pair (.int .i64) (.int .i64))))))))))) (.pair (.int .i64) (.pair (.int .i64) (.pair (.int .i64) (.list 3 (.int .i64))))))) [xs] 0 0,.list 57 (.pair (.int .i64) (.pair (.int .i64) (.pair (.int .i64) (.int .i64)))) bs,.list 67 (.pair (.int .i64) (.pair (.pair (.int .i64) (.pair (.int .i64) (.pair (.int .i64) (.int .i64)))) (.pair (.int .i64) (.int .i64)))) ls,.row 1],.row 40 (.pair (.int .i64) (.pair (.int .i64) (.int .i64))) fs]=>some ⟨[fs.length≤1099511627776],.tuple .nl,[some (.cells 61 [.lptr 88 (.list 92 TN) [xs] 0 0,.list 57 T4 bs,.list 67 TL ls,.row 2]),some .dead],[.row 40 TF (fnd so (a,b,c) fs)]⟩
 | _,_=>none
set_option maxHeartbeats 2000000 in
theorem f18_run (R:AV→List Ob→Prop) (so:Bool) (a b c:Int) (xs:List TN.den) (bs:List T4.den) (ls:List TL.den) (fs:List TF.den):fnM tab eQ0 Tryz.f18 (bodyOf Tryz.f18) [.ptr 0 0,.bool so,.int .i64 a,.int .i64 b,.int .i64 c] [.cells 61 [.lptr 88 (.list 92 TN) [xs] 0 0,.list 57 T4 bs,.list 67 TL ls,.row 1],.row 40 TF fs] 1 R=(bif so then (fs.length+1)*24≤140737488355328∧R AV.nl.tuple [Ob.cells 61 [AV.lptr 88 (Ty.list 92 TN) [xs] 0 0,AV.list 57 T4 bs,AV.list 67 (KI.pair (T4.pair (KI.pair KI))) ls,AV.row 2],Ob.dead,Ob.row 40 (KI.pair (KI.pair KI)) (fs++[(a,b,c)])] else R AV.nl.tuple [Ob.cells 61 [AV.lptr 88 (Ty.list 92 TN) [xs] 0 0,AV.list 57 T4 bs,AV.list 67 (KI.pair (T4.pair (KI.pair KI))) ls,AV.row 2],Ob.dead,Ob.row 40 (KI.pair (KI.pair KI)) fs]):=by kernel_rfl
theorem ok18:ConOk2 Tryz.prog (18,con18):=by
 intro args obs t h hp
 change con18 args obs=some t at h
 unfold con18 at h
 split at h
 · rename_i so a b c xs bs ls fs
   change List TN.den at xs
   change List T4.den at bs
   change List TL.den at ls
   change List TF.den at fs
   cases h
   refine fn_ok2M envQ0 tab_ok mixed Tryz.func18 (by kernel_rfl) (by kernel_rfl) 1 (by simp) ?_
   rw[f18_run]
   try dsimp only
   have h0:=hp (fs.length≤1099511627776) (by simp)
   unfold fnd
   refine cond_split (fun h => ?_) (fun h => ?_)
   · rw[h];exact⟨by omega,rfl,rfl⟩
   · rw[h];exact⟨rfl,rfl⟩
 · cases h
def mgW (b:Bx) (r:R4):R4:=(IntKind.i64.wrap (r.1-b.2.2.2.2.2.2.1.2.2.2),IntKind.i64.wrap (r.2.1-b.2.2.2.2.2.2.1.1),IntKind.i64.wrap (r.2.2.1+b.2.2.2.2.2.2.1.2.1),IntKind.i64.wrap (r.2.2.2+b.2.2.2.2.2.2.1.2.2.1))
def mgL (xs:List Nd) (bs:List R4) (i:Int):R4:=mgW (ndAt xs i).1 (bs.getD i.toNat (0,0,0,0))
def con38:List AV→List Ob→Option Tells2
 | [.ptr 0 0,.int .i64 i],[.cells 61 [.lptr 88 (.list 92 (.pair (.pair (.int .i64) (.pair (.int .i64) (.pair (.int .i64) (.pair (.int .i64) (.pair (.int .i64) (.pair (.int .i64) (.pair (.pair (.int .i64) (.pair (.int .i64) (.pair (.int .i64) (.int .i64)))) (.pair (.int .i64) (.pair (.int .i64) (.pair (.int .i64) (.int .i64))))))))))) (.pair (.int .i64) (.pair (.int .i64) (.pair (.int .i64) (.list 3 (.int .i64))))))) [xs] 0 0,.list 57 (.pair (.int .i64) (.pair (.int .i64) (.pair (.int .i64) (.int .i64)))) bs,.list 67 (.pair (.int .i64) (.pair (.pair (.int .i64) (.pair (.int .i64) (.pair (.int .i64) (.int .i64)))) (.pair (.int .i64) (.int .i64)))) ls,.row 1],.row 40 (.pair (.int .i64) (.pair (.int .i64) (.int .i64))) fs]=>some ⟨[0≤i,i<(bs.length:Int)],.agg (.cons (.int .i64 ((blk (mgL xs bs i)).1)) (.cons (.int .i64 ((blk (mgL xs bs i)).2.1)) (.cons (.int .i64 ((blk (mgL xs bs i)).2.2.1)) (.cons (.int .i64 ((blk (mgL xs bs i)).2.2.2)) .nl)))),[none,none],[]⟩
 | _,_=>none
set_option maxHeartbeats 2000000 in
theorem f38_run (R:AV→List Ob→Prop) (i:Int) (xs:List TN.den) (bs:List T4.den) (ls:List TL.den) (fs:List TF.den):fnB tab eQ0 Tryz.f38 (bodyOf Tryz.f38) [.ptr 0 0,.int .i64 i] [.cells 61 [.lptr 88 (.list 92 TN) [xs] 0 0,.list 57 T4 bs,.list 67 TL ls,.row 1],.row 40 TF fs] R=(0≤i∧i<(↑bs.length:Int)∧R ((AV.int .i64 (IntKind.i64.wrap ((bs.getD i.toNat (0,0,0,0)).fst-(ndAt xs i).fst.snd.snd.snd.snd.snd.snd.fst.snd.snd.snd))).cons ((AV.int .i64 (IntKind.i64.wrap ((bs.getD i.toNat (0,0,0,0)).snd.fst-(ndAt xs i).fst.snd.snd.snd.snd.snd.snd.fst.fst))).cons ((AV.int .i64 (IntKind.i64.wrap ((bs.getD i.toNat (0,0,0,0)).snd.snd.fst+(ndAt xs i).fst.snd.snd.snd.snd.snd.snd.fst.snd.fst))).cons ((AV.int .i64 (IntKind.i64.wrap ((bs.getD i.toNat (0,0,0,0)).snd.snd.snd+(ndAt xs i).fst.snd.snd.snd.snd.snd.snd.fst.snd.snd.fst))).cons AV.nl)))).agg [Ob.cells 61 [AV.lptr 88 (Ty.list 92 TN) [xs] 0 0,AV.list 57 T4 bs,AV.list 67 (KI.pair (T4.pair (KI.pair KI))) ls,AV.row 1],Ob.row 40 (KI.pair (KI.pair KI)) fs]):=by kernel_rfl
theorem ok38:ConOk2 Tryz.prog (38,con38):=by
 intro args obs t h hp
 change con38 args obs=some t at h
 unfold con38 at h
 split at h
 · rename_i i xs bs ls fs
   change List TN.den at xs
   change List T4.den at bs
   change List TL.den at ls
   change List TF.den at fs
   cases h
   refine fn_ok2 envQ0 tab_ok mixed Tryz.func38 (by kernel_rfl) (by kernel_rfl) ?_
   rw[f38_run]
   try dsimp only
   have h0:=hp (0≤i) (by simp)
   have h1:=hp (i<(bs.length:Int)) (by simp)
   rw[blk_eq]
   exact⟨h0,h1,rfl,rfl⟩
 · cases h
def consQ1:Cons:=consQ0
def twosQ1:Cons2:=(18,con18)::(38,con38)::twosQ0
def pansQ1:Cons3:=pansQ0
def itersQ1:Cons4:=itersQ0
abbrev eQ1:Env:=envOf4 consQ1 twosQ1 pansQ1 itersQ1
theorem allconsQ1:∀c∈consQ1,ConOk Tryz.prog c:=allconsQ0
theorem alltwosQ1:∀c∈twosQ1,ConOk2 Tryz.prog c:=all_cons ok18 (all_cons ok38 alltwosQ0)
theorem allpansQ1:∀c∈pansQ1,ConOk3 Tryz.prog c:=allpansQ0
theorem allitersQ1:∀c∈itersQ1,ConOk4 Tryz.prog c:=allitersQ0
theorem envQ1:EnvOk Tryz.prog eQ1:=envOf4_ok _ _ _ _ allconsQ1 alltwosQ1 allpansQ1 allitersQ1
def meetR (a b:R4):Bool:=fullW (max a.1 b.1) (max a.2.1 b.2.1) (min a.2.2.1 b.2.2.1) (min a.2.2.2 b.2.2.2)
def con43:List AV→List Ob→Option Tells2
 | [.ptr 0 0,.int .i64 i,.agg (.cons (.int .i64 a) (.cons (.int .i64 b) (.cons (.int .i64 c) (.cons (.int .i64 d) .nl))))],[.cells 61 [.lptr 88 (.list 92 (.pair (.pair (.int .i64) (.pair (.int .i64) (.pair (.int .i64) (.pair (.int .i64) (.pair (.int .i64) (.pair (.int .i64) (.pair (.pair (.int .i64) (.pair (.int .i64) (.pair (.int .i64) (.int .i64)))) (.pair (.int .i64) (.pair (.int .i64) (.pair (.int .i64) (.int .i64))))))))))) (.pair (.int .i64) (.pair (.int .i64) (.pair (.int .i64) (.list 3 (.int .i64))))))) [xs] 0 0,.list 57 (.pair (.int .i64) (.pair (.int .i64) (.pair (.int .i64) (.int .i64)))) bs,.list 67 (.pair (.int .i64) (.pair (.pair (.int .i64) (.pair (.int .i64) (.pair (.int .i64) (.int .i64)))) (.pair (.int .i64) (.int .i64)))) ls,.row 1],.row 40 (.pair (.int .i64) (.pair (.int .i64) (.int .i64))) fs]=>some ⟨[0≤i,i<(bs.length:Int)],.bool (blk (meetR (mgL xs bs i) (a,b,c,d))),[none,none],[]⟩
 | _,_=>none
theorem f43_run (R:AV→List Ob→Prop) (i a b c d:Int) (xs:List TN.den) (bs:List T4.den) (ls:List TL.den) (fs:List TF.den):fnB tab eQ1 Tryz.f43 (bodyOf Tryz.f43) [.ptr 0 0,.int .i64 i,.agg (.cons (.int .i64 a) (.cons (.int .i64 b) (.cons (.int .i64 c) (.cons (.int .i64 d) .nl))))] [.cells 61 [.lptr 88 (.list 92 TN) [xs] 0 0,.list 57 T4 bs,.list 67 TL ls,.row 1],.row 40 TF fs] R=(0≤i∧i<(↑bs.length:Int)∧R (AV.bool (fullW (max (blk (mgL xs bs i)).fst a) (max (blk (mgL xs bs i)).snd.fst b) (min (blk (mgL xs bs i)).snd.snd.fst c) (min (blk (mgL xs bs i)).snd.snd.snd d))) [Ob.cells 61 [AV.lptr 88 (Ty.list 92 TN) [xs] 0 0,AV.list 57 T4 bs,AV.list 67 (KI.pair (T4.pair (KI.pair KI))) ls,AV.row 1],Ob.row 40 (KI.pair (KI.pair KI)) fs]):=by kernel_rfl
theorem ok43:ConOk2 Tryz.prog (43,con43):=by
 intro args obs t h hp
 change con43 args obs=some t at h
 unfold con43 at h
 split at h
 · rename_i i a b c d xs bs ls fs
   change List TN.den at xs
   change List T4.den at bs
   change List TL.den at ls
   change List TF.den at fs
   cases h
   refine fn_ok2 envQ1 tab_ok mixed Tryz.func43 (by kernel_rfl) (by kernel_rfl) ?_
   rw[f43_run]
   try dsimp only
   have h0:=hp (0≤i) (by simp)
   have h1:=hp (i<(bs.length:Int)) (by simp)
   rw[blk_eq,blk_eq]
   exact⟨h0,h1,rfl,rfl⟩
 · cases h
def consQ2:Cons:=consQ1
def twosQ2:Cons2:=(43,con43)::twosQ1
def pansQ2:Cons3:=pansQ1
def itersQ2:Cons4:=itersQ1
abbrev eQ2:Env:=envOf4 consQ2 twosQ2 pansQ2 itersQ2
theorem allconsQ2:∀c∈consQ2,ConOk Tryz.prog c:=allconsQ1
theorem alltwosQ2:∀c∈twosQ2,ConOk2 Tryz.prog c:=all_cons ok43 alltwosQ1
theorem allpansQ2:∀c∈pansQ2,ConOk3 Tryz.prog c:=allpansQ1
theorem allitersQ2:∀c∈itersQ2,ConOk4 Tryz.prog c:=allitersQ1
theorem envQ2:EnvOk Tryz.prog eQ2:=envOf4_ok _ _ _ _ allconsQ2 alltwosQ2 allpansQ2 allitersQ2
structure TrOk (xs:List Nd):Prop where
 len:xs.length≤65536
 kids:∀x∈xs,x.2.2.2.2.length≤65536
 fin:∀c,endQ xs (topQ xs c)
 mem:∀c,(memL xs c).length≤65536
 mems:∀c,∀i∈memL xs c,0≤i∧i<(xs.length:Int)
 par:∀i:Int,0<i→i<xs.length→0≤(ndAt xs i).2.1∧(ndAt xs i).2.1<i
def agStep (xs:List Nd) (bs:List R4) (r:R4) (rule at':Int) (fs:List Ft) (i:Int):List Ft:=fnd (meetR (mgL xs bs i) r) (rule,at',i) fs
def agL (xs:List Nd) (bs:List R4) (ctx ahead:Int) (r:R4) (rule at':Int) (fs:List Ft):List Ft:=(fltL xs ctx ahead).foldl (agStep xs bs r rule at') fs
theorem fnd_len (so:Bool) (f:Ft) (fs:List Ft):(fnd so f fs).length≤fs.length+1:=by
 unfold fnd
 cases so<;>simp
theorem fold_len {g:List Ft→Int→List Ft} {d:Nat} (h:∀fs i,(g fs i).length≤fs.length+d):∀(l:List Int) (fs:List Ft),(l.foldl g fs).length≤fs.length+l.length*d
 | [],fs=>by simp
 | i::l,fs=>by
  rw[List.foldl_cons,List.length_cons,Nat.add_mul]
  have h1:=h fs i
  have h2:=fold_len h l (g fs i)
  omega
theorem flt_len {xs:List Nd} (t:TrOk xs) (c a:Int):(fltL xs c a).length≤65536:=Nat.le_trans (List.length_filter_le _ _) (t.mem c)
theorem flt_mem {xs:List Nd} (t:TrOk xs) {c a i:Int} (h:i∈fltL xs c a):0≤i∧i<xs.length:=t.mems c i (List.mem_filter.1 h).1
def con15:List AV→List Ob→Option Tells2
 | [.ptr 0 0,.int .i64 ctx,.int .i64 ahead,.agg (.cons (.int .i64 a) (.cons (.int .i64 b) (.cons (.int .i64 c) (.cons (.int .i64 d) .nl)))),.int .i64 rule,.int .i64 at'],[.cells 61 [.lptr 88 (.list 92 (.pair (.pair (.int .i64) (.pair (.int .i64) (.pair (.int .i64) (.pair (.int .i64) (.pair (.int .i64) (.pair (.int .i64) (.pair (.pair (.int .i64) (.pair (.int .i64) (.pair (.int .i64) (.int .i64)))) (.pair (.int .i64) (.pair (.int .i64) (.pair (.int .i64) (.int .i64))))))))))) (.pair (.int .i64) (.pair (.int .i64) (.pair (.int .i64) (.list 3 (.int .i64))))))) [xs] 0 0,.list 57 (.pair (.int .i64) (.pair (.int .i64) (.pair (.int .i64) (.int .i64)))) bs,.list 67 (.pair (.int .i64) (.pair (.pair (.int .i64) (.pair (.int .i64) (.pair (.int .i64) (.int .i64)))) (.pair (.int .i64) (.int .i64)))) ls,.row 1],.row 40 (.pair (.int .i64) (.pair (.int .i64) (.int .i64))) fs]=>some ⟨[TrOk xs,xs.length=bs.length,fs.length≤549755813888],.tuple .nl,[some (.cells 61 [.lptr 88 (.list 92 TN) [xs] 0 0,.list 57 T4 bs,.list 67 TL ls,.row 2]),some .dead],[.row 40 TF (agL xs bs ctx ahead (a,b,c,d) rule at' fs)]⟩
 | _,_=>none
def f15_live1:List Nat:=[22,21,20,22,0,0,9,4,5,22]
def f15_head1 (ctx:Int) (ahead:Int) (a:Int) (b:Int) (c:Int) (d:Int) (rule:Int) (at':Int) (xs:List TN.den) (bs:List T4.den) (ls:List TL.den) (s22:Int) (o2:List (Int×Int×Int)):St:={slots:=[AV.ptr 0 0,AV.undef,AV.undef,AV.undef,AV.int .i64 rule,AV.int .i64 at',AV.undef,AV.undef,AV.undef,AV.ptr 3 0]++List.replicate 10 AV.undef++[AV.row 4,AV.int .i64 (↑(fltL xs ctx ahead).length:Int),AV.int .i64 s22]++List.replicate 13 AV.undef,obs:=[Ob.cells 61 [AV.lptr 88 (Ty.list 92 TN) [xs] 0 0,AV.list 57 T4 bs,AV.list 67 (KI.pair (T4.pair (KI.pair KI))) ls,AV.row 2],Ob.dead,Ob.row 40 (KI.pair (KI.pair KI)) o2,Ob.cells 57 [AV.int .i64 a,AV.int .i64 b,AV.int .i64 c,AV.int .i64 d],Ob.row 3 KI (fltL xs ctx ahead)],n:=2}
def f15_q1 (R:AV→List Ob→Prop):Ex→St→Prop:=blockA 0 (endA tab Tryz.f15 R)
def f15_loop1 (R:AV→List Ob→Prop) (ctx:Int) (ahead:Int) (a:Int) (b:Int) (c:Int) (d:Int) (rule:Int) (at':Int) (xs:List TN.den) (bs:List T4.den) (ls:List TL.den) (s22:Int) (o2:List (Int×Int×Int)):Prop:=loopT f15_live1 (codeA tab eQ2 (subC [1,1,0,0] (bodyOf Tryz.f15)) f15_live1) (f15_head1 ctx ahead a b c d rule at' xs bs ls s22 o2) (f15_q1 R)
def f15_rhs1 (R:AV→List Ob→Prop) (ctx:Int) (ahead:Int) (a:Int) (b:Int) (c:Int) (d:Int) (rule:Int) (at':Int) (xs:List TN.den) (bs:List T4.den) (ls:List TL.den) (J:St→Prop) (s22:Int) (o2:List (Int×Int×Int)):Prop:=bif decide (s22<(↑(fltL xs ctx ahead).length:Int)) then 0≤s22∧s22<(↑(fltL xs ctx ahead).length:Int)∧0≤(fltL xs ctx ahead).getD s22.toNat 0∧(fltL xs ctx ahead).getD s22.toNat 0<(↑bs.length:Int)∧o2.length≤1099511627776∧J (f15_head1 ctx ahead a b c d rule at' xs bs ls (IntKind.i64.wrap (s22+1)) (fnd (blk (meetR (mgL xs bs ((fltL xs ctx ahead).getD s22.toNat 0)) (a,b,c,d))) (rule,at',(fltL xs ctx ahead).getD s22.toNat 0) o2)) else R AV.nl.tuple [Ob.cells 61 [AV.lptr 88 (Ty.list 92 TN) [xs] 0 0,AV.list 57 T4 bs,AV.list 67 (KI.pair (T4.pair (KI.pair KI))) ls,AV.row 2],Ob.dead,Ob.row 40 (KI.pair (KI.pair KI)) o2]
theorem f15_eq1 (R:AV→List Ob→Prop) (ctx:Int) (ahead:Int) (a:Int) (b:Int) (c:Int) (d:Int) (rule:Int) (at':Int) (xs:List TN.den) (bs:List T4.den) (ls:List TL.den) (J:St→Prop) (s22:Int) (o2:List (Int×Int×Int)):codeA tab eQ2 (subC [1,1,0,0] (bodyOf Tryz.f15)) f15_live1 (f15_head1 ctx ahead a b c d rule at' xs bs ls s22 o2) (thenA (fun s=>J (St.tidy f15_live1 s)) (f15_q1 R))=f15_rhs1 R ctx ahead a b c d rule at' xs bs ls J s22 o2:=by kernel_rfl
set_option maxHeartbeats 2000000 in
theorem f15_rule1 (R:AV→List Ob→Prop) (ctx:Int) (ahead:Int) (a:Int) (b:Int) (c:Int) (d:Int) (rule:Int) (at':Int) (xs:List TN.den) (bs:List T4.den) (ls:List TL.den) (I:Nat→(Int)→(List (Int×Int×Int))→Prop) (n:Nat) (s22:Int) (o2:List (Int×Int×Int)) (h0:I n s22 o2) (h:∀n,∀(s22:Int) (o2:List (Int×Int×Int)),I n s22 o2→f15_rhs1 R ctx ahead a b c d rule at' xs bs ls (fun t=>∃m,m<n∧∃(s22:Int) (o2:List (Int×Int×Int)),t=f15_head1 ctx ahead a b c d rule at' xs bs ls s22 o2∧I m s22 o2) s22 o2):f15_loop1 R ctx ahead a b c d rule at' xs bs ls s22 o2:=
 loop_intro (fun n t=>∃(s22:Int) (o2:List (Int×Int×Int)),t=f15_head1 ctx ahead a b c d rule at' xs bs ls s22 o2∧I n s22 o2) n ⟨s22,o2,rfl,h0⟩ (fun n t ht=>by obtain⟨s22,o2,rfl,hI⟩:=ht;exact Eq.mpr (f15_eq1 R ctx ahead a b c d rule at' xs bs ls (fun t=>∃m,m<n∧∃(s22:Int) (o2:List (Int×Int×Int)),t=f15_head1 ctx ahead a b c d rule at' xs bs ls s22 o2∧I m s22 o2) s22 o2) (h n s22 o2 hI))
theorem f15_run (R:AV→List Ob→Prop) (ctx ahead a b c d rule at':Int) (xs:List TN.den) (bs:List T4.den) (ls:List TL.den) (fs:List TF.den):fnM tab eQ2 Tryz.f15 (bodyOf Tryz.f15) [.ptr 0 0,.int .i64 ctx,.int .i64 ahead,.agg (.cons (.int .i64 a) (.cons (.int .i64 b) (.cons (.int .i64 c) (.cons (.int .i64 d) .nl)))),.int .i64 rule,.int .i64 at'] [.cells 61 [.lptr 88 (.list 92 TN) [xs] 0 0,.list 57 T4 bs,.list 67 TL ls,.row 1],.row 40 TF fs] 1 R=((∀(x:TN.den),x∈xs→List.length x.snd.snd.snd.snd≤65536)∧endQ xs (topQ xs ctx)∧(memL xs ctx).length≤65536∧f15_loop1 R ctx ahead a b c d rule at' xs bs ls 0 fs):=by kernel_rfl
theorem ok15:ConOk2 Tryz.prog (15,con15):=by
 intro args obs t h hp
 change con15 args obs=some t at h
 unfold con15 at h
 split at h
 · rename_i ctx ahead a b c d rule at' xs bs ls fs
   change List TN.den at xs
   change List T4.den at bs
   change List TL.den at ls
   change List TF.den at fs
   cases h
   refine fn_ok2M envQ2 tab_ok mixed Tryz.func15 (by kernel_rfl) (by kernel_rfl) 1 (by simp) ?_
   rw[f15_run]
   try dsimp only
   have ht:=hp (TrOk xs) (by simp)
   have hb:=hp (xs.length=bs.length) (by simp)
   have h0:=hp (fs.length≤549755813888) (by simp)
   clear hp
   refine⟨ht.kids,ht.fin ctx,ht.mem ctx,?_⟩
   have hl:=flt_len ht ctx ahead
   have hm:=fun i h=>flt_mem ht (c:=ctx) (a:=ahead) (i:=i) h
   have hfl:=fun (l:List Int)=>fold_len (g:=agStep xs bs (a,b,c,d) rule at') (d:=1) (fun fs i=>fnd_len _ _ fs) l fs
   unfold agL
   refine f15_rule1 _ ctx ahead a b c d rule at' xs bs ls (fun n s o=>∃k:Nat,k≤(fltL xs ctx ahead).length∧n=(fltL xs ctx ahead).length-k∧s=k∧o=((fltL xs ctx ahead).take k).foldl (agStep xs bs (a,b,c,d) rule at') fs) (fltL xs ctx ahead).length 0 fs ⟨0,Nat.zero_le _,rfl,rfl,rfl⟩ ?_
   rintro n s o ⟨k,hk,rfl,rfl,rfl⟩
   unfold f15_rhs1
   generalize fltL xs ctx ahead=q at hl hm hk ⊢
   refine dec_split (fun hlt => ?_) (fun hlt => ?_)
   · have hlt':k<q.length:=by omega
     have hi:=hm _ (getD_mem (d:=0) hlt')
     have hf:=hfl (q.take k)
     rw[List.length_take] at hf
     rw[Int.toNat_natCast,blk_eq]
     refine⟨by omega,hlt,hi.1,by omega,by omega,q.length-(k+1),by omega,_,_,rfl,k+1,by omega,rfl,wrap_next k _ hlt' (by simp only[maxLen];omega),?_⟩
     rw[take_next q k hlt',List.foldl_append,getD_nat' q 0 k hlt']
     rfl
   · rw[take_all q k (by omega)]
     exact⟨rfl,rfl⟩
 · cases h
def consQ3:Cons:=consQ2
def twosQ3:Cons2:=(15,con15)::twosQ2
def pansQ3:Cons3:=pansQ2
def itersQ3:Cons4:=itersQ2
theorem allconsQ3:∀c∈consQ3,ConOk Tryz.prog c:=allconsQ2
theorem alltwosQ3:∀c∈twosQ3,ConOk2 Tryz.prog c:=all_cons ok15 alltwosQ2
theorem allpansQ3:∀c∈pansQ3,ConOk3 Tryz.prog c:=allpansQ2
theorem allitersQ3:∀c∈itersQ3,ConOk4 Tryz.prog c:=allitersQ2
def sideW (b:Bx) (r:R4) (e:Rc4) (f t:Int):Bool:=bif b.2.2.1==1&&decide (r.1<IntKind.i64.wrap (f+e.2.2.2)) then true else b.2.2.1==2&&decide (r.2.2.1>IntKind.i64.wrap (t-e.2.1))
def parL (xs:List Nd) (at':Int):Int:=(ndAt xs at').2.1
def flStep (xs:List Nd) (bs:List R4) (at':Int) (fs:List Ft) (i:Int):List Ft:=
 fnd ((bif (ndAt xs at').1.2.2.2.1==3 then true else (ndAt xs at').1.2.2.2.1==(ndAt xs i).1.2.2.1)&&decide ((mgL xs bs at').2.1<(mgL xs bs i).2.2.2)) (5,at',i) (fnd (decide ((mgL xs bs at').2.1<(mgL xs bs i).2.1)) (3,at',i) (fnd (meetR (mgL xs bs i) (mgL xs bs at')) (2,at',i) fs))
def flL (xs:List Nd) (bs:List R4) (at':Int) (fs:List Ft):List Ft:=(fltL xs (ndAt xs at').2.2.2.1 at').foldl (flStep xs bs at') (fnd (sideW (ndAt xs at').1 (mgL xs bs at') (ndAt xs (parL xs at')).1.2.2.2.2.2.2.2 (bs.getD (parL xs at').toNat (0,0,0,0)).1 (bs.getD (parL xs at').toNat (0,0,0,0)).2.2.1) (4,at',parL xs at') fs)
theorem side_all {K:Bool→Prop} {H p1 p2 p3 p4:Prop} (c1 c2 d1 d2:Bool) (q1:p1) (q2:p2) (q3:p3) (q4:p4) (hH:H) (h:K (bif c1&&d1 then true else c2&&d2)) :
 bif c1 then p1∧p2∧bif c2 then p3∧p4∧bif !d1 then H∧K d2 else H∧K true else bif !d1 then H∧K false else H∧K true else bif c2 then p3∧p4∧H∧K d2 else H∧K false:=by
 cases c1<;>cases c2<;>cases d1<;>simp_all
theorem clr_all {K:Bool→Prop} {H:Prop} (c1 c2 d:Bool) (hH:H) (h:K ((bif c1 then true else c2)&&d)):bif !c1 then bif c2 then H∧K d else H∧K false else H∧K d:=by
 cases c1<;>cases c2<;>simp_all
def con14:List AV→List Ob→Option Tells2
 | [.ptr 0 0,.int .i64 at'],[.cells 61 [.lptr 88 (.list 92 (.pair (.pair (.int .i64) (.pair (.int .i64) (.pair (.int .i64) (.pair (.int .i64) (.pair (.int .i64) (.pair (.int .i64) (.pair (.pair (.int .i64) (.pair (.int .i64) (.pair (.int .i64) (.int .i64)))) (.pair (.int .i64) (.pair (.int .i64) (.pair (.int .i64) (.int .i64))))))))))) (.pair (.int .i64) (.pair (.int .i64) (.pair (.int .i64) (.list 3 (.int .i64))))))) [xs] 0 0,.list 57 (.pair (.int .i64) (.pair (.int .i64) (.pair (.int .i64) (.int .i64)))) bs,.list 67 (.pair (.int .i64) (.pair (.pair (.int .i64) (.pair (.int .i64) (.pair (.int .i64) (.int .i64)))) (.pair (.int .i64) (.int .i64)))) ls,.row 1],.row 40 (.pair (.int .i64) (.pair (.int .i64) (.int .i64))) fs]=>some ⟨[TrOk xs,xs.length=bs.length,fs.length≤549755813888,0<at',at'<(xs.length:Int)],.tuple .nl,[some (.cells 61 [.lptr 88 (.list 92 TN) [xs] 0 0,.list 57 T4 bs,.list 67 TL ls,.row 2]),some .dead],[.row 40 TF (flL xs bs at' fs)]⟩
 | _,_=>none
def f14_cuts:List Nat:=[7,15]
set_option maxHeartbeats 2000000 in
def f14_j1 (R:AV→List Ob→Prop) (at':Int) (xs:List TN.den) (bs:List T4.den) (ls:List TL.den) (o2_1:List (Int×Int×Int)):Prop:=Meet (fun s=>codeA tab (eQ2.cut f14_cuts) (subC [1,1,1,1,1,1] (bodyOf Tryz.f14)) [] s (endA tab Tryz.f14 R)) {slots:=[AV.ptr 0 0,AV.int .i64 at',AV.undef,AV.undef,AV.ptr 3 0,AV.ptr 4 0]++List.replicate 138 AV.undef,obs:=[Ob.cells 61 [AV.lptr 88 (Ty.list 92 TN) [xs] 0 0,AV.list 57 T4 bs,AV.list 67 (KI.pair (T4.pair (KI.pair KI))) ls,AV.row 2],Ob.dead,Ob.row 40 (KI.pair (KI.pair KI)) o2_1,Ob.cells 54 [AV.int .i64 (ndAt xs at').fst.fst,AV.int .i64 (ndAt xs at').fst.snd.fst,AV.int .i64 (ndAt xs at').fst.snd.snd.fst,AV.int .i64 (ndAt xs at').fst.snd.snd.snd.fst,AV.int .i64 (ndAt xs at').fst.snd.snd.snd.snd.fst,AV.int .i64 (ndAt xs at').fst.snd.snd.snd.snd.snd.fst,AV.int .i64 (ndAt xs at').fst.snd.snd.snd.snd.snd.snd.fst.fst,AV.int .i64 (ndAt xs at').fst.snd.snd.snd.snd.snd.snd.fst.snd.fst,AV.int .i64 (ndAt xs at').fst.snd.snd.snd.snd.snd.snd.fst.snd.snd.fst,AV.int .i64 (ndAt xs at').fst.snd.snd.snd.snd.snd.snd.fst.snd.snd.snd,AV.int .i64 (ndAt xs at').fst.snd.snd.snd.snd.snd.snd.snd.fst,AV.int .i64 (ndAt xs at').fst.snd.snd.snd.snd.snd.snd.snd.snd.fst,AV.int .i64 (ndAt xs at').fst.snd.snd.snd.snd.snd.snd.snd.snd.snd.fst,AV.int .i64 (ndAt xs at').fst.snd.snd.snd.snd.snd.snd.snd.snd.snd.snd],Ob.cells 57 [AV.int .i64 (blk (mgL xs bs at')).fst,AV.int .i64 (blk (mgL xs bs at')).snd.fst,AV.int .i64 (blk (mgL xs bs at')).snd.snd.fst,AV.int .i64 (blk (mgL xs bs at')).snd.snd.snd]],n:=2}
def f14_live2:List Nat:=[93,92,91,93,0,0,5,1,0,5,1,4,4,0,0,5,1,93]
set_option maxHeartbeats 2000000 in
def f14_head2 (at':Int) (xs:List TN.den) (bs:List T4.den) (ls:List TL.den) (s93:Int) (o2:List (Int×Int×Int)):St:={slots:=[AV.ptr 0 0,AV.int .i64 at',AV.undef,AV.undef,AV.ptr 3 0,AV.ptr 4 0]++List.replicate 85 AV.undef++[AV.row 5,AV.int .i64 (↑(fltL xs (ndAt xs at').snd.snd.snd.fst at').length:Int),AV.int .i64 s93]++List.replicate 50 AV.undef,obs:=[Ob.cells 61 [AV.lptr 88 (Ty.list 92 TN) [xs] 0 0,AV.list 57 T4 bs,AV.list 67 (KI.pair (T4.pair (KI.pair KI))) ls,AV.row 2],Ob.dead,Ob.row 40 (KI.pair (KI.pair KI)) o2,Ob.cells 54 [AV.int .i64 (ndAt xs at').fst.fst,AV.int .i64 (ndAt xs at').fst.snd.fst,AV.int .i64 (ndAt xs at').fst.snd.snd.fst,AV.int .i64 (ndAt xs at').fst.snd.snd.snd.fst,AV.int .i64 (ndAt xs at').fst.snd.snd.snd.snd.fst,AV.int .i64 (ndAt xs at').fst.snd.snd.snd.snd.snd.fst,AV.int .i64 (ndAt xs at').fst.snd.snd.snd.snd.snd.snd.fst.fst,AV.int .i64 (ndAt xs at').fst.snd.snd.snd.snd.snd.snd.fst.snd.fst,AV.int .i64 (ndAt xs at').fst.snd.snd.snd.snd.snd.snd.fst.snd.snd.fst,AV.int .i64 (ndAt xs at').fst.snd.snd.snd.snd.snd.snd.fst.snd.snd.snd,AV.int .i64 (ndAt xs at').fst.snd.snd.snd.snd.snd.snd.snd.fst,AV.int .i64 (ndAt xs at').fst.snd.snd.snd.snd.snd.snd.snd.snd.fst,AV.int .i64 (ndAt xs at').fst.snd.snd.snd.snd.snd.snd.snd.snd.snd.fst,AV.int .i64 (ndAt xs at').fst.snd.snd.snd.snd.snd.snd.snd.snd.snd.snd],Ob.cells 57 [AV.int .i64 (blk (mgL xs bs at')).fst,AV.int .i64 (blk (mgL xs bs at')).snd.fst,AV.int .i64 (blk (mgL xs bs at')).snd.snd.fst,AV.int .i64 (blk (mgL xs bs at')).snd.snd.snd],Ob.row 3 KI (fltL xs (ndAt xs at').snd.snd.snd.fst at')],n:=2}
def f14_q2 (R:AV→List Ob→Prop):Ex→St→Prop:=blockA 0 (endA tab Tryz.f14 R)
def f14_loop2 (R:AV→List Ob→Prop) (at':Int) (xs:List TN.den) (bs:List T4.den) (ls:List TL.den) (s93:Int) (o2:List (Int×Int×Int)):Prop:=loopT f14_live2 (codeA tab (eQ2.cut f14_cuts) (subC [1,1,1,1,1,1,1,0,0] (bodyOf Tryz.f14)) f14_live2) (f14_head2 at' xs bs ls s93 o2) (f14_q2 R)
set_option maxHeartbeats 2000000 in
def f14_j3 (R:AV→List Ob→Prop) (at':Int) (xs:List TN.den) (bs:List T4.den) (ls:List TL.den) (s93:Int) (J:St→Prop) (o2'_3:List (Int×Int×Int)):Prop:=Meet (fun s=>codeA tab (eQ2.cut f14_cuts) (subC [1,1,1,1,1,1,1,0,0,1,1,1] (bodyOf Tryz.f14)) [93,92,91,93,0,0,5,1,0,5,1,4,4,0,0,5,1,93] s (thenA (fun s=>J (St.tidy f14_live2 s)) (blockA 0 (endA tab Tryz.f14 R)))) {slots:=[AV.ptr 0 0,AV.int .i64 at',AV.undef,AV.undef,AV.ptr 3 0,AV.ptr 4 0]++List.replicate 85 AV.undef++[AV.row 5,AV.int .i64 (↑(fltL xs (ndAt xs at').snd.snd.snd.fst at').length:Int),AV.int .i64 s93]++List.replicate 50 AV.undef,obs:=[Ob.cells 61 [AV.lptr 88 (Ty.list 92 TN) [xs] 0 0,AV.list 57 T4 bs,AV.list 67 (KI.pair (T4.pair (KI.pair KI))) ls,AV.row 2],Ob.dead,Ob.row 40 (KI.pair (KI.pair KI)) o2'_3,Ob.cells 54 [AV.int .i64 (ndAt xs at').fst.fst,AV.int .i64 (ndAt xs at').fst.snd.fst,AV.int .i64 (ndAt xs at').fst.snd.snd.fst,AV.int .i64 (ndAt xs at').fst.snd.snd.snd.fst,AV.int .i64 (ndAt xs at').fst.snd.snd.snd.snd.fst,AV.int .i64 (ndAt xs at').fst.snd.snd.snd.snd.snd.fst,AV.int .i64 (ndAt xs at').fst.snd.snd.snd.snd.snd.snd.fst.fst,AV.int .i64 (ndAt xs at').fst.snd.snd.snd.snd.snd.snd.fst.snd.fst,AV.int .i64 (ndAt xs at').fst.snd.snd.snd.snd.snd.snd.fst.snd.snd.fst,AV.int .i64 (ndAt xs at').fst.snd.snd.snd.snd.snd.snd.fst.snd.snd.snd,AV.int .i64 (ndAt xs at').fst.snd.snd.snd.snd.snd.snd.snd.fst,AV.int .i64 (ndAt xs at').fst.snd.snd.snd.snd.snd.snd.snd.snd.fst,AV.int .i64 (ndAt xs at').fst.snd.snd.snd.snd.snd.snd.snd.snd.snd.fst,AV.int .i64 (ndAt xs at').fst.snd.snd.snd.snd.snd.snd.snd.snd.snd.snd],Ob.cells 57 [AV.int .i64 (blk (mgL xs bs at')).fst,AV.int .i64 (blk (mgL xs bs at')).snd.fst,AV.int .i64 (blk (mgL xs bs at')).snd.snd.fst,AV.int .i64 (blk (mgL xs bs at')).snd.snd.snd],Ob.row 3 KI (fltL xs (ndAt xs at').snd.snd.snd.fst at')],n:=2}
theorem f14_jeq3 (R:AV→List Ob→Prop) (at':Int) (xs:List TN.den) (bs:List T4.den) (ls:List TL.den) (s93:Int) (J:St→Prop) (o2'_3:List (Int×Int×Int)):f14_j3 R at' xs bs ls s93 J o2'_3=(J (f14_head2 at' xs bs ls (IntKind.i64.wrap (s93+1)) o2'_3)):=(meet_eq _ _).trans (by kernel_rfl)
set_option maxHeartbeats 2000000 in
def f14_rhs2 (R:AV→List Ob→Prop) (at':Int) (xs:List TN.den) (bs:List T4.den) (ls:List TL.den) (J:St→Prop) (s93:Int) (o2:List (Int×Int×Int)):Prop:=bif decide (s93<(↑(fltL xs (ndAt xs at').snd.snd.snd.fst at').length:Int)) then 0≤s93∧s93<(↑(fltL xs (ndAt xs at').snd.snd.snd.fst at').length:Int)∧0≤(fltL xs (ndAt xs at').snd.snd.snd.fst at').getD s93.toNat 0∧(fltL xs (ndAt xs at').snd.snd.snd.fst at').getD s93.toNat 0<(↑bs.length:Int)∧o2.length≤1099511627776∧(fnd (fullW (max (blk (mgL xs bs ((fltL xs (ndAt xs at').snd.snd.snd.fst at').getD s93.toNat 0))).fst (blk (mgL xs bs at')).fst) (max (blk (mgL xs bs ((fltL xs (ndAt xs at').snd.snd.snd.fst at').getD s93.toNat 0))).snd.fst (blk (mgL xs bs at')).snd.fst) (min (blk (mgL xs bs ((fltL xs (ndAt xs at').snd.snd.snd.fst at').getD s93.toNat 0))).snd.snd.fst (blk (mgL xs bs at')).snd.snd.fst) (min (blk (mgL xs bs ((fltL xs (ndAt xs at').snd.snd.snd.fst at').getD s93.toNat 0))).snd.snd.snd (blk (mgL xs bs at')).snd.snd.snd)) (2,at',(fltL xs (ndAt xs at').snd.snd.snd.fst at').getD s93.toNat 0) o2).length≤1099511627776∧bif !(ndAt xs at').fst.snd.snd.snd.fst==3 then bif (ndAt xs at').fst.snd.snd.snd.fst==(ndAt xs ((fltL xs (ndAt xs at').snd.snd.snd.fst at').getD s93.toNat 0)).fst.snd.snd.fst then (fnd (decide ((blk (mgL xs bs at')).snd.fst<(blk (mgL xs bs ((fltL xs (ndAt xs at').snd.snd.snd.fst at').getD s93.toNat 0))).snd.fst)) (3,at',(fltL xs (ndAt xs at').snd.snd.snd.fst at').getD s93.toNat 0) (fnd (fullW (max (blk (mgL xs bs ((fltL xs (ndAt xs at').snd.snd.snd.fst at').getD s93.toNat 0))).fst (blk (mgL xs bs at')).fst) (max (blk (mgL xs bs ((fltL xs (ndAt xs at').snd.snd.snd.fst at').getD s93.toNat 0))).snd.fst (blk (mgL xs bs at')).snd.fst) (min (blk (mgL xs bs ((fltL xs (ndAt xs at').snd.snd.snd.fst at').getD s93.toNat 0))).snd.snd.fst (blk (mgL xs bs at')).snd.snd.fst) (min (blk (mgL xs bs ((fltL xs (ndAt xs at').snd.snd.snd.fst at').getD s93.toNat 0))).snd.snd.snd (blk (mgL xs bs at')).snd.snd.snd)) (2,at',(fltL xs (ndAt xs at').snd.snd.snd.fst at').getD s93.toNat 0) o2)).length≤1099511627776∧f14_j3 R at' xs bs ls s93 J (fnd (decide ((blk (mgL xs bs at')).snd.fst<(blk (mgL xs bs ((fltL xs (ndAt xs at').snd.snd.snd.fst at').getD s93.toNat 0))).snd.snd.snd)) (5,at',(fltL xs (ndAt xs at').snd.snd.snd.fst at').getD s93.toNat 0) (fnd (decide ((blk (mgL xs bs at')).snd.fst<(blk (mgL xs bs ((fltL xs (ndAt xs at').snd.snd.snd.fst at').getD s93.toNat 0))).snd.fst)) (3,at',(fltL xs (ndAt xs at').snd.snd.snd.fst at').getD s93.toNat 0) (fnd (fullW (max (blk (mgL xs bs ((fltL xs (ndAt xs at').snd.snd.snd.fst at').getD s93.toNat 0))).fst (blk (mgL xs bs at')).fst) (max (blk (mgL xs bs ((fltL xs (ndAt xs at').snd.snd.snd.fst at').getD s93.toNat 0))).snd.fst (blk (mgL xs bs at')).snd.fst) (min (blk (mgL xs bs ((fltL xs (ndAt xs at').snd.snd.snd.fst at').getD s93.toNat 0))).snd.snd.fst (blk (mgL xs bs at')).snd.snd.fst) (min (blk (mgL xs bs ((fltL xs (ndAt xs at').snd.snd.snd.fst at').getD s93.toNat 0))).snd.snd.snd (blk (mgL xs bs at')).snd.snd.snd)) (2,at',(fltL xs (ndAt xs at').snd.snd.snd.fst at').getD s93.toNat 0) o2))) else (fnd (decide ((blk (mgL xs bs at')).snd.fst<(blk (mgL xs bs ((fltL xs (ndAt xs at').snd.snd.snd.fst at').getD s93.toNat 0))).snd.fst)) (3,at',(fltL xs (ndAt xs at').snd.snd.snd.fst at').getD s93.toNat 0) (fnd (fullW (max (blk (mgL xs bs ((fltL xs (ndAt xs at').snd.snd.snd.fst at').getD s93.toNat 0))).fst (blk (mgL xs bs at')).fst) (max (blk (mgL xs bs ((fltL xs (ndAt xs at').snd.snd.snd.fst at').getD s93.toNat 0))).snd.fst (blk (mgL xs bs at')).snd.fst) (min (blk (mgL xs bs ((fltL xs (ndAt xs at').snd.snd.snd.fst at').getD s93.toNat 0))).snd.snd.fst (blk (mgL xs bs at')).snd.snd.fst) (min (blk (mgL xs bs ((fltL xs (ndAt xs at').snd.snd.snd.fst at').getD s93.toNat 0))).snd.snd.snd (blk (mgL xs bs at')).snd.snd.snd)) (2,at',(fltL xs (ndAt xs at').snd.snd.snd.fst at').getD s93.toNat 0) o2)).length≤1099511627776∧f14_j3 R at' xs bs ls s93 J (fnd false (5,at',(fltL xs (ndAt xs at').snd.snd.snd.fst at').getD s93.toNat 0) (fnd (decide ((blk (mgL xs bs at')).snd.fst<(blk (mgL xs bs ((fltL xs (ndAt xs at').snd.snd.snd.fst at').getD s93.toNat 0))).snd.fst)) (3,at',(fltL xs (ndAt xs at').snd.snd.snd.fst at').getD s93.toNat 0) (fnd (fullW (max (blk (mgL xs bs ((fltL xs (ndAt xs at').snd.snd.snd.fst at').getD s93.toNat 0))).fst (blk (mgL xs bs at')).fst) (max (blk (mgL xs bs ((fltL xs (ndAt xs at').snd.snd.snd.fst at').getD s93.toNat 0))).snd.fst (blk (mgL xs bs at')).snd.fst) (min (blk (mgL xs bs ((fltL xs (ndAt xs at').snd.snd.snd.fst at').getD s93.toNat 0))).snd.snd.fst (blk (mgL xs bs at')).snd.snd.fst) (min (blk (mgL xs bs ((fltL xs (ndAt xs at').snd.snd.snd.fst at').getD s93.toNat 0))).snd.snd.snd (blk (mgL xs bs at')).snd.snd.snd)) (2,at',(fltL xs (ndAt xs at').snd.snd.snd.fst at').getD s93.toNat 0) o2))) else (fnd (decide ((blk (mgL xs bs at')).snd.fst<(blk (mgL xs bs ((fltL xs (ndAt xs at').snd.snd.snd.fst at').getD s93.toNat 0))).snd.fst)) (3,at',(fltL xs (ndAt xs at').snd.snd.snd.fst at').getD s93.toNat 0) (fnd (fullW (max (blk (mgL xs bs ((fltL xs (ndAt xs at').snd.snd.snd.fst at').getD s93.toNat 0))).fst (blk (mgL xs bs at')).fst) (max (blk (mgL xs bs ((fltL xs (ndAt xs at').snd.snd.snd.fst at').getD s93.toNat 0))).snd.fst (blk (mgL xs bs at')).snd.fst) (min (blk (mgL xs bs ((fltL xs (ndAt xs at').snd.snd.snd.fst at').getD s93.toNat 0))).snd.snd.fst (blk (mgL xs bs at')).snd.snd.fst) (min (blk (mgL xs bs ((fltL xs (ndAt xs at').snd.snd.snd.fst at').getD s93.toNat 0))).snd.snd.snd (blk (mgL xs bs at')).snd.snd.snd)) (2,at',(fltL xs (ndAt xs at').snd.snd.snd.fst at').getD s93.toNat 0) o2)).length≤1099511627776∧f14_j3 R at' xs bs ls s93 J (fnd (decide ((blk (mgL xs bs at')).snd.fst<(blk (mgL xs bs ((fltL xs (ndAt xs at').snd.snd.snd.fst at').getD s93.toNat 0))).snd.snd.snd)) (5,at',(fltL xs (ndAt xs at').snd.snd.snd.fst at').getD s93.toNat 0) (fnd (decide ((blk (mgL xs bs at')).snd.fst<(blk (mgL xs bs ((fltL xs (ndAt xs at').snd.snd.snd.fst at').getD s93.toNat 0))).snd.fst)) (3,at',(fltL xs (ndAt xs at').snd.snd.snd.fst at').getD s93.toNat 0) (fnd (fullW (max (blk (mgL xs bs ((fltL xs (ndAt xs at').snd.snd.snd.fst at').getD s93.toNat 0))).fst (blk (mgL xs bs at')).fst) (max (blk (mgL xs bs ((fltL xs (ndAt xs at').snd.snd.snd.fst at').getD s93.toNat 0))).snd.fst (blk (mgL xs bs at')).snd.fst) (min (blk (mgL xs bs ((fltL xs (ndAt xs at').snd.snd.snd.fst at').getD s93.toNat 0))).snd.snd.fst (blk (mgL xs bs at')).snd.snd.fst) (min (blk (mgL xs bs ((fltL xs (ndAt xs at').snd.snd.snd.fst at').getD s93.toNat 0))).snd.snd.snd (blk (mgL xs bs at')).snd.snd.snd)) (2,at',(fltL xs (ndAt xs at').snd.snd.snd.fst at').getD s93.toNat 0) o2))) else R AV.nl.tuple [Ob.cells 61 [AV.lptr 88 (Ty.list 92 TN) [xs] 0 0,AV.list 57 T4 bs,AV.list 67 (KI.pair (T4.pair (KI.pair KI))) ls,AV.row 2],Ob.dead,Ob.row 40 (KI.pair (KI.pair KI)) o2]
theorem f14_eq2 (R:AV→List Ob→Prop) (at':Int) (xs:List TN.den) (bs:List T4.den) (ls:List TL.den) (J:St→Prop) (s93:Int) (o2:List (Int×Int×Int)):codeA tab (eQ2.cut f14_cuts) (subC [1,1,1,1,1,1,1,0,0] (bodyOf Tryz.f14)) f14_live2 (f14_head2 at' xs bs ls s93 o2) (thenA (fun s=>J (St.tidy f14_live2 s)) (f14_q2 R))=f14_rhs2 R at' xs bs ls J s93 o2:=by kernel_rfl
set_option maxHeartbeats 2000000 in
theorem f14_rule2 (R:AV→List Ob→Prop) (at':Int) (xs:List TN.den) (bs:List T4.den) (ls:List TL.den) (I:Nat→(Int)→(List (Int×Int×Int))→Prop) (n:Nat) (s93:Int) (o2:List (Int×Int×Int)) (h0:I n s93 o2) (h:∀n,∀(s93:Int) (o2:List (Int×Int×Int)),I n s93 o2→f14_rhs2 R at' xs bs ls (fun t=>∃m,m<n∧∃(s93:Int) (o2:List (Int×Int×Int)),t=f14_head2 at' xs bs ls s93 o2∧I m s93 o2) s93 o2):f14_loop2 R at' xs bs ls s93 o2:=
 loop_intro (fun n t=>∃(s93:Int) (o2:List (Int×Int×Int)),t=f14_head2 at' xs bs ls s93 o2∧I n s93 o2) n ⟨s93,o2,rfl,h0⟩ (fun n t ht=>by obtain⟨s93,o2,rfl,hI⟩:=ht;exact Eq.mpr (f14_eq2 R at' xs bs ls (fun t=>∃m,m<n∧∃(s93:Int) (o2:List (Int×Int×Int)),t=f14_head2 at' xs bs ls s93 o2∧I m s93 o2) s93 o2) (h n s93 o2 hI))
theorem f14_jeq1 (R:AV→List Ob→Prop) (at':Int) (xs:List TN.den) (bs:List T4.den) (ls:List TL.den) (o2_1:List (Int×Int×Int)):f14_j1 R at' xs bs ls o2_1=((∀(x:TN.den),x∈xs→List.length x.snd.snd.snd.snd≤65536)∧endQ xs (topQ xs (ndAt xs at').snd.snd.snd.fst)∧(memL xs (ndAt xs at').snd.snd.snd.fst).length≤65536∧f14_loop2 R at' xs bs ls 0 o2_1):=(meet_eq _ _).trans (by kernel_rfl)
set_option maxHeartbeats 2000000 in
theorem f14_run (R:AV→List Ob→Prop) (at':Int) (xs:List TN.den) (bs:List T4.den) (ls:List TL.den) (fs:List TF.den):fnM tab (eQ2.cut f14_cuts) Tryz.f14 (bodyOf Tryz.f14) [.ptr 0 0,.int .i64 at'] [.cells 61 [.lptr 88 (.list 92 TN) [xs] 0 0,.list 57 T4 bs,.list 67 TL ls,.row 1],.row 40 TF fs] 1 R=(0≤at'∧at'<(↑bs.length:Int)∧0≤(ndAt xs at').snd.fst∧(ndAt xs at').snd.fst<(↑bs.length:Int)∧bif (ndAt xs at').fst.snd.snd.fst==1 then (0:Int)≤3∧(3:Int)<4∧bif (ndAt xs at').fst.snd.snd.fst==2 then (0:Int)≤1∧(1:Int)<4∧bif !decide ((blk (mgL xs bs at')).fst<IntKind.i64.wrap ((bs.getD (ndAt xs at').snd.fst.toNat (0,0,0,0)).fst+(ndAt xs (ndAt xs at').snd.fst).fst.snd.snd.snd.snd.snd.snd.snd.snd.snd.snd)) then fs.length≤1099511627776∧f14_j1 R at' xs bs ls (fnd (decide ((blk (mgL xs bs at')).snd.snd.fst>IntKind.i64.wrap ((bs.getD (ndAt xs at').snd.fst.toNat (0,0,0,0)).snd.snd.fst-(ndAt xs (ndAt xs at').snd.fst).fst.snd.snd.snd.snd.snd.snd.snd.snd.fst))) (4,at',(ndAt xs at').snd.fst) fs) else fs.length≤1099511627776∧f14_j1 R at' xs bs ls (fnd true (4,at',(ndAt xs at').snd.fst) fs) else bif !decide ((blk (mgL xs bs at')).fst<IntKind.i64.wrap ((bs.getD (ndAt xs at').snd.fst.toNat (0,0,0,0)).fst+(ndAt xs (ndAt xs at').snd.fst).fst.snd.snd.snd.snd.snd.snd.snd.snd.snd.snd)) then fs.length≤1099511627776∧f14_j1 R at' xs bs ls (fnd false (4,at',(ndAt xs at').snd.fst) fs) else fs.length≤1099511627776∧f14_j1 R at' xs bs ls (fnd true (4,at',(ndAt xs at').snd.fst) fs) else bif (ndAt xs at').fst.snd.snd.fst==2 then (0:Int)≤1∧(1:Int)<4∧fs.length≤1099511627776∧f14_j1 R at' xs bs ls (fnd (decide ((blk (mgL xs bs at')).snd.snd.fst>IntKind.i64.wrap ((bs.getD (ndAt xs at').snd.fst.toNat (0,0,0,0)).snd.snd.fst-(ndAt xs (ndAt xs at').snd.fst).fst.snd.snd.snd.snd.snd.snd.snd.snd.fst))) (4,at',(ndAt xs at').snd.fst) fs) else fs.length≤1099511627776∧f14_j1 R at' xs bs ls (fnd false (4,at',(ndAt xs at').snd.fst) fs)):=by kernel_rfl
theorem ok14:ConOk2 Tryz.prog (14,con14):=by
 intro args obs t h hp
 change con14 args obs=some t at h
 unfold con14 at h
 split at h
 · rename_i at' xs bs ls fs
   change List TN.den at xs
   change List T4.den at bs
   change List TL.den at ls
   change List TF.den at fs
   cases h
   refine fn_ok2M (envQ2.cut f14_cuts) tab_ok mixed Tryz.func14 (by kernel_rfl) (by kernel_rfl) 1 (by simp) ?_
   rw[f14_run]
   try dsimp only
   have ht:=hp (TrOk xs) (by simp)
   have hb:=hp (xs.length=bs.length) (by simp)
   have h0:=hp (fs.length≤549755813888) (by simp)
   have h3:=hp (0<at') (by simp)
   have h4:=hp (at'<(xs.length:Int)) (by simp)
   clear hp
   have hpar:=ht.par at' h3 h4
   refine⟨by omega,by omega,hpar.1,by omega,?_⟩
   refine side_all (K:=fun so=>f14_j1 _ at' xs bs ls (fnd so (4,at',(ndAt xs at').2.1) fs)) _ _ _ _ (by decide) (by decide) (by decide) (by decide) (by omega) ?_
   rw[f14_jeq1,blk_eq]
   refine⟨ht.kids,ht.fin _,ht.mem _,?_⟩
   show f14_loop2 _ at' xs bs ls 0 (fnd (sideW (ndAt xs at').1 (mgL xs bs at') (ndAt xs (parL xs at')).1.2.2.2.2.2.2.2 (bs.getD (parL xs at').toNat (0,0,0,0)).1 (bs.getD (parL xs at').toNat (0,0,0,0)).2.2.1) (4,at',parL xs at') fs)
   unfold flL
   have hf0:=fnd_len (sideW (ndAt xs at').1 (mgL xs bs at') (ndAt xs (parL xs at')).1.2.2.2.2.2.2.2 (bs.getD (parL xs at').toNat (0,0,0,0)).1 (bs.getD (parL xs at').toNat (0,0,0,0)).2.2.1) (4,at',parL xs at') fs
   generalize fnd (sideW (ndAt xs at').1 (mgL xs bs at') (ndAt xs (parL xs at')).1.2.2.2.2.2.2.2 (bs.getD (parL xs at').toNat (0,0,0,0)).1 (bs.getD (parL xs at').toNat (0,0,0,0)).2.2.1) (4,at',parL xs at') fs=f0 at hf0 ⊢
   have hl:=flt_len ht (ndAt xs at').2.2.2.1 at'
   have hm:=fun i h=>flt_mem ht (c:=(ndAt xs at').2.2.2.1) (a:=at') (i:=i) h
   have hfl:=fun (l:List Int)=>fold_len (g:=flStep xs bs at') (d:=3) (fun fs i=>by
    unfold flStep
    refine Nat.le_trans (fnd_len _ _ _) (Nat.succ_le_succ (Nat.le_trans (fnd_len _ _ _) (Nat.succ_le_succ (fnd_len _ _ _))))) l f0
   refine f14_rule2 _ at' xs bs ls (fun n s o=>∃k:Nat,k≤(fltL xs (ndAt xs at').2.2.2.1 at').length∧n=(fltL xs (ndAt xs at').2.2.2.1 at').length-k∧s=k∧o=((fltL xs (ndAt xs at').2.2.2.1 at').take k).foldl (flStep xs bs at') f0) (fltL xs (ndAt xs at').2.2.2.1 at').length 0 f0 ⟨0,Nat.zero_le _,rfl,rfl,rfl⟩ ?_
   rintro n s o ⟨k,hk,rfl,rfl,rfl⟩
   unfold f14_rhs2
   generalize fltL xs (ndAt xs at').2.2.2.1 at'=q at hl hm hk ⊢
   refine dec_split (fun hlt => ?_) (fun hlt => ?_)
   · have hlt':k<q.length:=by omega
     have hi:=hm _ (getD_mem (d:=0) hlt')
     have hf:=hfl (q.take k)
     have hnx:=take_next q k hlt'
     rw[←getD_nat' q 0 k hlt'] at hnx
     rw[List.length_take] at hf
     rw[Int.toNat_natCast,blk_eq,blk_eq]
     have hfo:=fnd_len (meetR (mgL xs bs (q.getD k 0)) (mgL xs bs at')) (2,at',q.getD k 0) ((q.take k).foldl (flStep xs bs at') f0)
     have hfo2:=fnd_len (decide ((mgL xs bs at').2.1<(mgL xs bs (q.getD k 0)).2.1)) (3,at',q.getD k 0) (fnd (meetR (mgL xs bs (q.getD k 0)) (mgL xs bs at')) (2,at',q.getD k 0) ((q.take k).foldl (flStep xs bs at') f0))
     refine⟨by omega,hlt,hi.1,by omega,by omega,Nat.le_trans hfo (by omega),?_⟩
     refine clr_all (K:=fun so=>f14_j3 _ at' xs bs ls _ _ (fnd so (5,at',q.getD k 0) _)) _ _ _ (Nat.le_trans hfo2 (by omega)) ?_
     rw[f14_jeq3]
     refine⟨q.length-(k+1),by omega,_,_,rfl,k+1,by omega,rfl,wrap_next k _ hlt' (by simp only[maxLen];omega),?_⟩
     rw[hnx,List.foldl_append]
     rfl
   · rw[take_all q k (by omega)]
     exact⟨rfl,rfl⟩
 · cases h
def consQ4:Cons:=consQ3
def twosQ4:Cons2:=(14,con14)::twosQ3
def pansQ4:Cons3:=pansQ3
def itersQ4:Cons4:=itersQ3
abbrev eQ4:Env:=envOf4 consQ4 twosQ4 pansQ4 itersQ4
theorem allconsQ4:∀c∈consQ4,ConOk Tryz.prog c:=allconsQ3
theorem alltwosQ4:∀c∈twosQ4,ConOk2 Tryz.prog c:=all_cons ok14 alltwosQ3
theorem allpansQ4:∀c∈pansQ4,ConOk3 Tryz.prog c:=allpansQ3
theorem allitersQ4:∀c∈itersQ4,ConOk4 Tryz.prog c:=allitersQ3
theorem envQ4:EnvOk Tryz.prog eQ4:=envOf4_ok _ _ _ _ allconsQ4 alltwosQ4 allpansQ4 allitersQ4
def atomN (xs:List Nd) (first:Int) (l:List Int):Nat:=(l.filter fun i=>decide (i≥first)&&(ndAt xs i).1.2.1==5).length
def wrongB (xs:List Nd) (at' first atoms:Int):Bool:=bif !((ndAt xs at').1.2.1 != 4) then (bif !((ndAt xs first).1.2.1 != 5) then (bif !((ndAt xs first).2.1 != at') then decide (atoms<1) else true) else true) else true
def rightB (xs:List Nd) (at' first atoms:Int):Bool:=bif wrongB xs at' first atoms then false else decide (atoms≤(atomN xs first (ndAt xs at').2.2.2.2:Int))
theorem atomN_next (xs:List Nd) (first:Int) (l:List Int) (k:Nat) (h:k<l.length):atomN xs first (l.take (k+1))=atomN xs first (l.take k)+bif decide (l.getD k 0≥first)&&(ndAt xs (l.getD k 0)).1.2.1==5 then 1 else 0:=by
 unfold atomN
 rw[take_next l k h,List.filter_append,List.length_append,←getD_nat' l 0 k h]
 cases hc:(decide (l.getD k 0≥first)&&(ndAt xs (l.getD k 0)).1.2.1==5) with
 | true=>rw[List.filter_cons_of_pos (p:=fun i=>decide (i≥first)&&(ndAt xs i).1.2.1==5) hc];rfl
 | false=>rw[List.filter_cons_of_neg (p:=fun i=>decide (i≥first)&&(ndAt xs i).1.2.1==5) (by rw[hc];simp)];rfl
theorem atomN_le (xs:List Nd) (first:Int) (l:List Int):atomN xs first l≤l.length:=List.length_filter_le _ _
def con17:List AV→List Ob→Option Tells2
 | [.ptr 0 0,.agg (.cons (.int .i64 at') (.cons (.int .i64 a) (.cons (.int .i64 b) (.cons (.int .i64 c) (.cons (.int .i64 d) (.cons (.int .i64 first) (.cons (.int .i64 atoms) .nl)))))))],[.cells 61 [.lptr 88 (.list 92 (.pair (.pair (.int .i64) (.pair (.int .i64) (.pair (.int .i64) (.pair (.int .i64) (.pair (.int .i64) (.pair (.int .i64) (.pair (.pair (.int .i64) (.pair (.int .i64) (.pair (.int .i64) (.int .i64)))) (.pair (.int .i64) (.pair (.int .i64) (.pair (.int .i64) (.int .i64))))))))))) (.pair (.int .i64) (.pair (.int .i64) (.pair (.int .i64) (.list 3 (.int .i64))))))) [xs] 0 0,.list 57 (.pair (.int .i64) (.pair (.int .i64) (.pair (.int .i64) (.int .i64)))) bs,.list 67 (.pair (.int .i64) (.pair (.pair (.int .i64) (.pair (.int .i64) (.pair (.int .i64) (.int .i64)))) (.pair (.int .i64) (.int .i64)))) ls,.row 1],.row 40 (.pair (.int .i64) (.pair (.int .i64) (.int .i64))) fs]=>some ⟨[TrOk xs],.bool (blk (rightB xs at' first atoms)),[none,none],[]⟩
 | _,_=>none
def f17_cuts:List Nat:=[3,10]
def f17_j1 (R:AV→List Ob→Prop) (at':Int) (a:Int) (b:Int) (c:Int) (d:Int) (first:Int) (atoms:Int) (xs:List TN.den) (bs:List T4.den) (ls:List TL.den) (fs:List TF.den):Prop:=Meet (fun s=>codeA tab (eQ4.cut f17_cuts) (subC [1,0,1] (bodyOf Tryz.f17)) [0,3,3,0,3,4] s (seqQ tab (eQ4.cut f17_cuts) (subC [1,1] (bodyOf Tryz.f17)) [4] (endA tab Tryz.f17 R))) {slots:=[AV.ptr 0 0,AV.undef,AV.undef,AV.ptr 2 0,AV.bool false]++List.replicate 39 AV.undef++[AV.bool (decide (atoms<1))]++List.replicate 33 AV.undef,obs:=[Ob.cells 61 [AV.lptr 88 (Ty.list 92 TN) [xs] 0 0,AV.list 57 T4 bs,AV.list 67 (KI.pair (T4.pair (KI.pair KI))) ls,AV.row 1],Ob.row 40 (KI.pair (KI.pair KI)) fs,Ob.cells 67 [AV.int .i64 at',AV.int .i64 a,AV.int .i64 b,AV.int .i64 c,AV.int .i64 d,AV.int .i64 first,AV.int .i64 atoms]],n:=2}
def f17_live2:List Nat:=[53,52,51,53,3,0,5,53,3,5,4]
def f17_head2 (at':Int) (a:Int) (b:Int) (c:Int) (d:Int) (first:Int) (atoms:Int) (xs:List TN.den) (bs:List T4.den) (ls:List TL.den) (fs:List TF.den) (s5:Int) (s53:Int):St:={slots:=[AV.ptr 0 0,AV.undef,AV.undef,AV.ptr 2 0,AV.bool false,AV.int .i64 s5]++List.replicate 45 AV.undef++[AV.list 3 KI (ndAt xs at').snd.snd.snd.snd,AV.int .i64 (↑(ndAt xs at').snd.snd.snd.snd.length:Int),AV.int .i64 s53]++List.replicate 24 AV.undef,obs:=[Ob.cells 61 [AV.lptr 88 (Ty.list 92 TN) [xs] 0 0,AV.list 57 T4 bs,AV.list 67 (KI.pair (T4.pair (KI.pair KI))) ls,AV.row 1],Ob.row 40 (KI.pair (KI.pair KI)) fs,Ob.cells 67 [AV.int .i64 at',AV.int .i64 a,AV.int .i64 b,AV.int .i64 c,AV.int .i64 d,AV.int .i64 first,AV.int .i64 atoms]],n:=2}
def f17_q2 (R:AV→List Ob→Prop):Ex→St→Prop:=blockA 0 (seqQ tab (eQ4.cut f17_cuts) (subC [1,1,1,1] (bodyOf Tryz.f17)) [4] (endA tab Tryz.f17 R))
def f17_loop2 (R:AV→List Ob→Prop) (at':Int) (a:Int) (b:Int) (c:Int) (d:Int) (first:Int) (atoms:Int) (xs:List TN.den) (bs:List T4.den) (ls:List TL.den) (fs:List TF.den) (s5:Int) (s53:Int):Prop:=loopT f17_live2 (codeA tab (eQ4.cut f17_cuts) (subC [1,1,1,0,1,0,0] (bodyOf Tryz.f17)) f17_live2) (f17_head2 at' a b c d first atoms xs bs ls fs s5 s53) (f17_q2 R)
set_option maxHeartbeats 2000000 in
def f17_j3 (R:AV→List Ob→Prop) (at':Int) (a:Int) (b:Int) (c:Int) (d:Int) (first:Int) (atoms:Int) (xs:List TN.den) (bs:List T4.den) (ls:List TL.den) (fs:List TF.den) (s53:Int) (J:St→Prop) (s5'_3:Int):Prop:=Meet (fun s=>codeA tab (eQ4.cut f17_cuts) (subC [1,1,1,0,1,0,0,1,1,1] (bodyOf Tryz.f17)) [53,52,51,53,3,0,5,53,3,5,4] s (thenA (fun s=>J (St.tidy f17_live2 s)) (blockA 0 (seqQ tab (eQ4.cut f17_cuts) (subC [1,1,1,1] (bodyOf Tryz.f17)) [4] (endA tab Tryz.f17 R))))) {slots:=[AV.ptr 0 0,AV.undef,AV.undef,AV.ptr 2 0,AV.bool false,AV.int .i64 s5'_3]++List.replicate 45 AV.undef++[AV.list 3 KI (ndAt xs at').snd.snd.snd.snd,AV.int .i64 (↑(ndAt xs at').snd.snd.snd.snd.length:Int),AV.int .i64 s53]++List.replicate 24 AV.undef,obs:=[Ob.cells 61 [AV.lptr 88 (Ty.list 92 TN) [xs] 0 0,AV.list 57 T4 bs,AV.list 67 (KI.pair (T4.pair (KI.pair KI))) ls,AV.row 1],Ob.row 40 (KI.pair (KI.pair KI)) fs,Ob.cells 67 [AV.int .i64 at',AV.int .i64 a,AV.int .i64 b,AV.int .i64 c,AV.int .i64 d,AV.int .i64 first,AV.int .i64 atoms]],n:=2}
theorem f17_jeq3 (R:AV→List Ob→Prop) (at':Int) (a:Int) (b:Int) (c:Int) (d:Int) (first:Int) (atoms:Int) (xs:List TN.den) (bs:List T4.den) (ls:List TL.den) (fs:List TF.den) (s53:Int) (J:St→Prop) (s5'_3:Int):f17_j3 R at' a b c d first atoms xs bs ls fs s53 J s5'_3=(J (f17_head2 at' a b c d first atoms xs bs ls fs s5'_3 (IntKind.i64.wrap (s53+1)))):=(meet_eq _ _).trans (by kernel_rfl)
def f17_rhs2 (R:AV→List Ob→Prop) (at':Int) (a:Int) (b:Int) (c:Int) (d:Int) (first:Int) (atoms:Int) (xs:List TN.den) (bs:List T4.den) (ls:List TL.den) (fs:List TF.den) (J:St→Prop) (s5:Int) (s53:Int):Prop:=bif decide (s53<(↑(ndAt xs at').snd.snd.snd.snd.length:Int)) then 0≤s53∧s53<(↑(ndAt xs at').snd.snd.snd.snd.length:Int)∧bif decide ((ndAt xs at').snd.snd.snd.snd.getD s53.toNat 0≥first) then bif (ndAt xs ((ndAt xs at').snd.snd.snd.snd.getD s53.toNat 0)).fst.snd.fst==5 then f17_j3 R at' a b c d first atoms xs bs ls fs s53 J (IntKind.i64.wrap (s5+1)) else f17_j3 R at' a b c d first atoms xs bs ls fs s53 J s5 else f17_j3 R at' a b c d first atoms xs bs ls fs s53 J s5 else R (AV.bool (decide (atoms≤s5))) [Ob.cells 61 [AV.lptr 88 (Ty.list 92 TN) [xs] 0 0,AV.list 57 T4 bs,AV.list 67 (KI.pair (T4.pair (KI.pair KI))) ls,AV.row 1],Ob.row 40 (KI.pair (KI.pair KI)) fs]
theorem f17_eq2 (R:AV→List Ob→Prop) (at':Int) (a:Int) (b:Int) (c:Int) (d:Int) (first:Int) (atoms:Int) (xs:List TN.den) (bs:List T4.den) (ls:List TL.den) (fs:List TF.den) (J:St→Prop) (s5:Int) (s53:Int):codeA tab (eQ4.cut f17_cuts) (subC [1,1,1,0,1,0,0] (bodyOf Tryz.f17)) f17_live2 (f17_head2 at' a b c d first atoms xs bs ls fs s5 s53) (thenA (fun s=>J (St.tidy f17_live2 s)) (f17_q2 R))=f17_rhs2 R at' a b c d first atoms xs bs ls fs J s5 s53:=by kernel_rfl
set_option maxHeartbeats 2000000 in
theorem f17_rule2 (R:AV→List Ob→Prop) (at':Int) (a:Int) (b:Int) (c:Int) (d:Int) (first:Int) (atoms:Int) (xs:List TN.den) (bs:List T4.den) (ls:List TL.den) (fs:List TF.den) (I:Nat→(Int)→(Int)→Prop) (n:Nat) (s5:Int) (s53:Int) (h0:I n s5 s53) (h:∀n,∀(s5:Int) (s53:Int),I n s5 s53→f17_rhs2 R at' a b c d first atoms xs bs ls fs (fun t=>∃m,m<n∧∃(s5:Int) (s53:Int),t=f17_head2 at' a b c d first atoms xs bs ls fs s5 s53∧I m s5 s53) s5 s53):f17_loop2 R at' a b c d first atoms xs bs ls fs s5 s53:=
 loop_intro (fun n t=>∃(s5:Int) (s53:Int),t=f17_head2 at' a b c d first atoms xs bs ls fs s5 s53∧I n s5 s53) n ⟨s5,s53,rfl,h0⟩ (fun n t ht=>by obtain⟨s5,s53,rfl,hI⟩:=ht;exact Eq.mpr (f17_eq2 R at' a b c d first atoms xs bs ls fs (fun t=>∃m,m<n∧∃(s5:Int) (s53:Int),t=f17_head2 at' a b c d first atoms xs bs ls fs s5 s53∧I m s5 s53) s5 s53) (h n s5 s53 hI))
theorem f17_jeq1 (R:AV→List Ob→Prop) (at':Int) (a:Int) (b:Int) (c:Int) (d:Int) (first:Int) (atoms:Int) (xs:List TN.den) (bs:List T4.den) (ls:List TL.den) (fs:List TF.den):f17_j1 R at' a b c d first atoms xs bs ls fs=(bif decide (atoms<1) then R (AV.bool false) [Ob.cells 61 [AV.lptr 88 (Ty.list 92 TN) [xs] 0 0,AV.list 57 T4 bs,AV.list 67 (KI.pair (T4.pair (KI.pair KI))) ls,AV.row 1],Ob.row 40 (KI.pair (KI.pair KI)) fs] else (ndAt xs at').snd.snd.snd.snd.length≤65536∧f17_loop2 R at' a b c d first atoms xs bs ls fs 0 0):=(meet_eq _ _).trans (by kernel_rfl)
def f17_j4 (R:AV→List Ob→Prop) (at':Int) (a:Int) (b:Int) (c:Int) (d:Int) (first:Int) (atoms:Int) (xs:List TN.den) (bs:List T4.den) (ls:List TL.den) (fs:List TF.den):Prop:=Meet (fun s=>codeA tab (eQ4.cut f17_cuts) (subC [1,0,1] (bodyOf Tryz.f17)) [0,3,3,0,3,4] s (seqQ tab (eQ4.cut f17_cuts) (subC [1,1] (bodyOf Tryz.f17)) [4] (endA tab Tryz.f17 R))) {slots:=[AV.ptr 0 0,AV.undef,AV.undef,AV.ptr 2 0,AV.bool false]++List.replicate 39 AV.undef++[AV.bool true]++List.replicate 33 AV.undef,obs:=[Ob.cells 61 [AV.lptr 88 (Ty.list 92 TN) [xs] 0 0,AV.list 57 T4 bs,AV.list 67 (KI.pair (T4.pair (KI.pair KI))) ls,AV.row 1],Ob.row 40 (KI.pair (KI.pair KI)) fs,Ob.cells 67 [AV.int .i64 at',AV.int .i64 a,AV.int .i64 b,AV.int .i64 c,AV.int .i64 d,AV.int .i64 first,AV.int .i64 atoms]],n:=2}
theorem f17_jeq4 (R:AV→List Ob→Prop) (at':Int) (a:Int) (b:Int) (c:Int) (d:Int) (first:Int) (atoms:Int) (xs:List TN.den) (bs:List T4.den) (ls:List TL.den) (fs:List TF.den):f17_j4 R at' a b c d first atoms xs bs ls fs=(R (AV.bool false) [Ob.cells 61 [AV.lptr 88 (Ty.list 92 TN) [xs] 0 0,AV.list 57 T4 bs,AV.list 67 (KI.pair (T4.pair (KI.pair KI))) ls,AV.row 1],Ob.row 40 (KI.pair (KI.pair KI)) fs]):=(meet_eq _ _).trans (by kernel_rfl)
theorem f17_run (R:AV→List Ob→Prop) (at' a b c d first atoms:Int) (xs:List TN.den) (bs:List T4.den) (ls:List TL.den) (fs:List TF.den):fnB tab (eQ4.cut f17_cuts) Tryz.f17 (bodyOf Tryz.f17) [.ptr 0 0,.agg (.cons (.int .i64 at') (.cons (.int .i64 a) (.cons (.int .i64 b) (.cons (.int .i64 c) (.cons (.int .i64 d) (.cons (.int .i64 first) (.cons (.int .i64 atoms) .nl)))))))] [.cells 61 [.lptr 88 (.list 92 TN) [xs] 0 0,.list 57 T4 bs,.list 67 TL ls,.row 1],.row 40 TF fs] R=(bif !(ndAt xs at').fst.snd.fst != 4 then bif !(ndAt xs first).fst.snd.fst != 5 then bif !(ndAt xs first).snd.fst != at' then f17_j1 R at' a b c d first atoms xs bs ls fs else f17_j4 R at' a b c d first atoms xs bs ls fs else f17_j4 R at' a b c d first atoms xs bs ls fs else f17_j4 R at' a b c d first atoms xs bs ls fs):=by kernel_rfl
theorem ok17:ConOk2 Tryz.prog (17,con17):=by
 intro args obs t h hp
 change con17 args obs=some t at h
 unfold con17 at h
 split at h
 · rename_i at' a b c d first atoms xs bs ls fs
   change List TN.den at xs
   change List T4.den at bs
   change List TL.den at ls
   change List TF.den at fs
   cases h
   refine fn_ok2 (envQ4.cut f17_cuts) tab_ok mixed Tryz.func17 (by kernel_rfl) (by kernel_rfl) ?_
   rw[f17_run]
   try dsimp only
   have ht:=hp (TrOk xs) (by simp)
   clear hp
   rw[blk_eq]
   refine cond_split (fun h1=>cond_split (fun h2=>cond_split (fun h3 => ?_) (fun h3 => ?_)) (fun h2 => ?_)) (fun h1 => ?_)
   rotate_left
   · have hw:wrongB xs at' first atoms=true:=by unfold wrongB;rw[h1,h2,h3];rfl
     rw[f17_jeq4]
     exact⟨by unfold rightB;rw[hw];rfl,rfl⟩
   · have hw:wrongB xs at' first atoms=true:=by unfold wrongB;rw[h1,h2];rfl
     rw[f17_jeq4]
     exact⟨by unfold rightB;rw[hw];rfl,rfl⟩
   · have hw:wrongB xs at' first atoms=true:=by unfold wrongB;rw[h1];rfl
     rw[f17_jeq4]
     exact⟨by unfold rightB;rw[hw];rfl,rfl⟩
   have hw:wrongB xs at' first atoms=decide (atoms<1):=by unfold wrongB;rw[h1,h2,h3];rfl
   rw[f17_jeq1]
   refine cond_split (fun h4 => ?_) (fun h4 => ?_)
   · exact⟨by unfold rightB;rw[hw,h4];rfl,rfl⟩
   have hl:=ndAt_kids ht.kids at'
   refine⟨hl,?_⟩
   refine f17_rule2 _ at' a b c d first atoms xs bs ls fs (fun n s5 s=>∃k:Nat,k≤(ndAt xs at').2.2.2.2.length∧n=(ndAt xs at').2.2.2.2.length-k∧s=k∧s5=(atomN xs first ((ndAt xs at').2.2.2.2.take k):Int)) (ndAt xs at').2.2.2.2.length 0 0 ⟨0,Nat.zero_le _,rfl,rfl,rfl⟩ ?_
   rintro n s5 s ⟨k,hk,rfl,rfl,rfl⟩
   unfold f17_rhs2
   have hr:rightB xs at' first atoms=decide (atoms≤(atomN xs first (ndAt xs at').2.2.2.2:Int)):=by unfold rightB;rw[hw,h4];rfl
   refine dec_split (fun hlt => ?_) (fun hlt => ?_)
   · have hlt':k<(ndAt xs at').2.2.2.2.length:=by omega
     have hnx:=atomN_next xs first _ k hlt'
     have hle:=atomN_le xs first ((ndAt xs at').2.2.2.2.take k)
     rw[List.length_take] at hle
     have hk1:=wrap_next k _ hlt' (by simp only[maxLen];omega)
     have hw1:IntKind.wrap .i64 ((atomN xs first ((ndAt xs at').2.2.2.2.take k):Int)+1)=(atomN xs first ((ndAt xs at').2.2.2.2.take k)+1:Nat):=by rw[wrap_id _ (by omega)];rfl
     rw[Int.toNat_natCast]
     refine⟨by omega,hlt,cond_split (fun h5=>cond_split (fun h6 => ?_) (fun h6 => ?_)) (fun h5 => ?_)⟩
     · rw[h5,h6] at hnx
       rw[f17_jeq3,hw1]
       exact⟨_,by omega,_,_,rfl,k+1,by omega,rfl,hk1,by rw[hnx];rfl⟩
     · rw[h5,h6] at hnx
       rw[f17_jeq3]
       exact⟨_,by omega,_,_,rfl,k+1,by omega,rfl,hk1,by rw[hnx];rfl⟩
     · rw[h5,Bool.false_and] at hnx
       rw[f17_jeq3]
       exact⟨_,by omega,_,_,rfl,k+1,by omega,rfl,hk1,by rw[hnx];rfl⟩
   · rw[hr,take_all _ k (by omega)]
     exact⟨rfl,rfl⟩
 · cases h
def consQ5:Cons:=consQ4
def twosQ5:Cons2:=(17,con17)::twosQ4
def pansQ5:Cons3:=pansQ4
def itersQ5:Cons4:=itersQ4
theorem allconsQ5:∀c∈consQ5,ConOk Tryz.prog c:=allconsQ4
theorem alltwosQ5:∀c∈twosQ5,ConOk2 Tryz.prog c:=all_cons ok17 alltwosQ4
theorem allpansQ5:∀c∈pansQ5,ConOk3 Tryz.prog c:=allpansQ4
theorem allitersQ5:∀c∈itersQ5,ConOk4 Tryz.prog c:=allitersQ4
end
end Go.Proofs.YtkpjcmiijlpcaaaGreat.W
