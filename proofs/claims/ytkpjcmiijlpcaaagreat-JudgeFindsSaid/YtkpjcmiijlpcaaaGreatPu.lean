/- Layer 20's statement JudgeFinds: what it reckons. -/
import Derived.Test.YtkpjcmiijlpcaaaGreatEa
import Derived.Test.YtkpjcmiijlpcaaaGreatAwAF
import Derived.Test.YtkpjcmiijlpcaaaGreatAwAH
import Derived.Test.YtkpjcmiijlpcaaaGreatFd
import Derived.Test.YtkpjcmiijlpcaaaGreatFe
import Derived.Test.YtkpjcmiijlpcaaaGreatFh
import Derived.Test.YtkpjcmiijlpcaaaGreatFi
import Derived.Test.YtkpjcmiijlpcaaaGreatFk
import Derived.Test.YtkpjcmiijlpcaaaGreatPc
import Derived.Test.YtkpjcmiijlpcaaaGreatAwAI
import Derived.Test.YtkpjcmiijlpcaaaGreatFm
import Derived.Test.YtkpjcmiijlpcaaaGreatFn
import Derived.Test.YtkpjcmiijlpcaaaGreatRa
import Derived.Test.YtkpjcmiijlpcaaaGreatRb
import Derived.KernelRfl
set_option linter.unusedVariables false
set_option linter.unusedSimpArgs false
namespace Go.Proofs.YtkpjcmiijlpcaaaGreat.W
open Go Go.Proofs Go.Proofs.YtkpjcmiijlpcaaaGreat.Aw
noncomputable section
def consU0:Cons:=(23,con23)::[]
def twosU0:Cons2:=[]
def pansU0:Cons3:=[]
def itersU0:Cons4:=[]
abbrev eU0:Env:=envOf4 consU0 twosU0 pansU0 itersU0
theorem allconsU0:∀c∈consU0,ConOk Tryz.prog c:=all_cons ok23 all_nil
theorem alltwosU0:∀c∈twosU0,ConOk2 Tryz.prog c:=all_nil
theorem allpansU0:∀c∈pansU0,ConOk3 Tryz.prog c:=all_nil
theorem allitersU0:∀c∈itersU0,ConOk4 Tryz.prog c:=all_nil
theorem envU0:EnvOk Tryz.prog eU0:=envOf4_ok _ _ _ _ allconsU0 alltwosU0 allpansU0 allitersU0
def con7:List AV→Option Tells
 | [.agg (.cons (.list 46 (.pair (.int .i64) (.pair (.int .i64) (.pair (.int .i64) (.int .i64)))) gs) (.cons (.list 48 (.pair (.int .i64) (.pair (.pair (.int .i64) (.pair (.int .i64) (.pair (.int .i64) (.int .i64)))) (.pair (.int .i64) (.int .i64)))) gl) .nl))]=>some ⟨[gs.length≤65536,gl.length≤65536],.agg (.cons (.row 0) (.cons (.row 1) .nl)),[.row 57 T4 gs,.row 67 TL gl]⟩
 | _=>none
def f7_live1:List Nat:=[11,10,9,11,3,3,11,1,3,3,3,2,2]
def f7_head1 (gs:List T4.den) (gl:List TL.den) (s11:Int) (o5:List (Int×Int×Int×Int)):St:={slots:=[AV.undef,AV.ptr 0 0,AV.ptr 1 0,AV.ptr 2 0]++List.replicate 5 AV.undef++[AV.list 46 T4 gs,AV.int .i64 (↑gs.length:Int),AV.int .i64 s11]++List.replicate 35 AV.undef,obs:=[Ob.cells 26 [AV.list 46 T4 gs,AV.list 48 (KI.pair (T4.pair (KI.pair KI))) gl],Ob.cells 35 [AV.row 3,AV.row 4],Ob.cells 35 [AV.row 5,AV.row 6],Ob.row 57 T4 [],Ob.row 67 (KI.pair (T4.pair (KI.pair KI))) [],Ob.row 57 T4 o5,Ob.row 67 (KI.pair (T4.pair (KI.pair KI))) []]}
def f7_q1 (R:AV→List Ob→Prop):Ex→St→Prop:=blockA 0 (seqQ tab eU0 (subC [1,1,1] (bodyOf Tryz.f7)) [2] (endA tab Tryz.f7 R))
def f7_loop1 (R:AV→List Ob→Prop) (gs:List T4.den) (gl:List TL.den) (s11:Int) (o5:List (Int×Int×Int×Int)):Prop:=loopT f7_live1 (codeA tab eU0 (subC [1,1,0,1,0,0] (bodyOf Tryz.f7)) f7_live1) (f7_head1 gs gl s11 o5) (f7_q1 R)
def f7_live2:List Nat:=[26,25,24,26,3,3,26,3,2,2]
def f7_head2 (gl:List TL.den) (o5:List (Int×Int×Int×Int)) (s26':Int) (o5':List (Int×(Int×Int×Int×Int)×Int×Int)):St:={slots:=[AV.undef,AV.undef,AV.ptr 0 0,AV.ptr 1 0]++List.replicate 20 AV.undef++[AV.list 48 (KI.pair (T4.pair (KI.pair KI))) gl,AV.int .i64 (↑gl.length:Int),AV.int .i64 s26']++List.replicate 20 AV.undef,obs:=[Ob.cells 35 [AV.row 2,AV.row 3],Ob.cells 35 [AV.row 4,AV.row 5],Ob.row 57 T4 [],Ob.row 67 (KI.pair (T4.pair (KI.pair KI))) [],Ob.row 57 T4 o5,Ob.row 67 (KI.pair (T4.pair (KI.pair KI))) o5']}
def f7_q2 (R:AV→List Ob→Prop):Ex→St→Prop:=blockA 2 (seqQ tab eU0 (subC [1,1,1,1] (bodyOf Tryz.f7)) [2] (endA tab Tryz.f7 R))
def f7_loop2 (R:AV→List Ob→Prop) (gl:List TL.den) (o5:List (Int×Int×Int×Int)) (s26':Int) (o5':List (Int×(Int×Int×Int×Int)×Int×Int)):Prop:=loopT f7_live2 (codeA tab eU0 (subC [1,1,1,0,1,0,0] (bodyOf Tryz.f7)) f7_live2) (f7_head2 gl o5 s26' o5') (f7_q2 R)
def f7_rhs2 (R:AV→List Ob→Prop) (gl:List TL.den) (o5:List (Int×Int×Int×Int)) (J1:St→Prop) (s26':Int) (o5':List (Int×(Int×Int×Int×Int)×Int×Int)):Prop:=bif decide (s26'<(↑gl.length:Int)) then 0≤s26'∧s26'<(↑gl.length:Int)∧(o5'.length+1)*56≤140737488355328∧J1 (f7_head2 gl o5 (IntKind.i64.wrap (s26'+1)) (o5'++[((gl.getD s26'.toNat (0,(0,0,0,0),0,0)).fst,((gl.getD s26'.toNat (0,(0,0,0,0),0,0)).snd.fst.fst,(gl.getD s26'.toNat (0,(0,0,0,0),0,0)).snd.fst.snd.fst,(gl.getD s26'.toNat (0,(0,0,0,0),0,0)).snd.fst.snd.snd.fst,(gl.getD s26'.toNat (0,(0,0,0,0),0,0)).snd.fst.snd.snd.snd),(gl.getD s26'.toNat (0,(0,0,0,0),0,0)).snd.snd.fst,(gl.getD s26'.toNat (0,(0,0,0,0),0,0)).snd.snd.snd)])) else R ((AV.row 0).cons ((AV.row 1).cons AV.nl)).agg [Ob.row 57 T4 o5,Ob.row 67 (KI.pair (T4.pair (KI.pair KI))) o5']
theorem f7_eq2 (R:AV→List Ob→Prop) (gl:List TL.den) (o5:List (Int×Int×Int×Int)) (J1:St→Prop) (s26':Int) (o5':List (Int×(Int×Int×Int×Int)×Int×Int)):codeA tab eU0 (subC [1,1,1,0,1,0,0] (bodyOf Tryz.f7)) f7_live2 (f7_head2 gl o5 s26' o5') (thenA (fun s=>J1 (St.tidy f7_live2 s)) (f7_q2 R))=f7_rhs2 R gl o5 J1 s26' o5':=by kernel_rfl
set_option maxHeartbeats 2000000 in
theorem f7_rule2 (R:AV→List Ob→Prop) (gl:List TL.den) (o5:List (Int×Int×Int×Int)) (I:Nat→(Int)→(List (Int×(Int×Int×Int×Int)×Int×Int))→Prop) (n:Nat) (s26':Int) (o5':List (Int×(Int×Int×Int×Int)×Int×Int)) (h0:I n s26' o5') (h:∀n,∀(s26':Int) (o5':List (Int×(Int×Int×Int×Int)×Int×Int)),I n s26' o5'→f7_rhs2 R gl o5 (fun t=>∃m,m<n∧∃(s26':Int) (o5':List (Int×(Int×Int×Int×Int)×Int×Int)),t=f7_head2 gl o5 s26' o5'∧I m s26' o5') s26' o5'):f7_loop2 R gl o5 s26' o5':=
 loop_intro (fun n t=>∃(s26':Int) (o5':List (Int×(Int×Int×Int×Int)×Int×Int)),t=f7_head2 gl o5 s26' o5'∧I n s26' o5') n ⟨s26',o5',rfl,h0⟩ (fun n t ht=>by obtain⟨s26',o5',rfl,hI⟩:=ht;exact Eq.mpr (f7_eq2 R gl o5 (fun t=>∃m,m<n∧∃(s26':Int) (o5':List (Int×(Int×Int×Int×Int)×Int×Int)),t=f7_head2 gl o5 s26' o5'∧I m s26' o5') s26' o5') (h n s26' o5' hI))
def f7_rhs1 (R:AV→List Ob→Prop) (gs:List T4.den) (gl:List TL.den) (J:St→Prop) (s11:Int) (o5:List (Int×Int×Int×Int)):Prop:=bif decide (s11<(↑gs.length:Int)) then 0≤s11∧s11<(↑gs.length:Int)∧(o5.length+1)*32≤140737488355328∧J (f7_head1 gs gl (IntKind.i64.wrap (s11+1)) (o5++[((gs.getD s11.toNat (0,0,0,0)).fst,(gs.getD s11.toNat (0,0,0,0)).snd.fst,(gs.getD s11.toNat (0,0,0,0)).snd.snd.fst,(gs.getD s11.toNat (0,0,0,0)).snd.snd.snd)])) else f7_loop2 R gl o5 0 []
theorem f7_eq1 (R:AV→List Ob→Prop) (gs:List T4.den) (gl:List TL.den) (J:St→Prop) (s11:Int) (o5:List (Int×Int×Int×Int)):codeA tab eU0 (subC [1,1,0,1,0,0] (bodyOf Tryz.f7)) f7_live1 (f7_head1 gs gl s11 o5) (thenA (fun s=>J (St.tidy f7_live1 s)) (f7_q1 R))=f7_rhs1 R gs gl J s11 o5:=by kernel_rfl
set_option maxHeartbeats 2000000 in
theorem f7_rule1 (R:AV→List Ob→Prop) (gs:List T4.den) (gl:List TL.den) (I:Nat→(Int)→(List (Int×Int×Int×Int))→Prop) (n:Nat) (s11:Int) (o5:List (Int×Int×Int×Int)) (h0:I n s11 o5) (h:∀n,∀(s11:Int) (o5:List (Int×Int×Int×Int)),I n s11 o5→f7_rhs1 R gs gl (fun t=>∃m,m<n∧∃(s11:Int) (o5:List (Int×Int×Int×Int)),t=f7_head1 gs gl s11 o5∧I m s11 o5) s11 o5):f7_loop1 R gs gl s11 o5:=
 loop_intro (fun n t=>∃(s11:Int) (o5:List (Int×Int×Int×Int)),t=f7_head1 gs gl s11 o5∧I n s11 o5) n ⟨s11,o5,rfl,h0⟩ (fun n t ht=>by obtain⟨s11,o5,rfl,hI⟩:=ht;exact Eq.mpr (f7_eq1 R gs gl (fun t=>∃m,m<n∧∃(s11:Int) (o5:List (Int×Int×Int×Int)),t=f7_head1 gs gl s11 o5∧I m s11 o5) s11 o5) (h n s11 o5 hI))
theorem f7_run (R:AV→List Ob→Prop) (gs:List T4.den) (gl:List TL.den):fnA tab eU0 Tryz.f7 (bodyOf Tryz.f7) [.agg (.cons (.list 46 T4 gs) (.cons (.list 48 TL gl) .nl))] R=(f7_loop1 R gs gl 0 []):=by kernel_rfl
theorem ok7:ConOk Tryz.prog (7,con7):=by
 intro args t h hp
 change con7 args=some t at h
 unfold con7 at h
 split at h
 · rename_i gs gl
   change List T4.den at gs
   change List TL.den at gl
   cases h
   refine fn_ok envU0 tab_ok mixed Tryz.func7 (by kernel_rfl) (by kernel_rfl) ?_
   rw[f7_run]
   try dsimp only
   have h1:=hp (gs.length≤65536) (by simp)
   have h2:=hp (gl.length≤65536) (by simp)
   clear hp
   refine f7_rule1 _ gs gl (fun n s o=>∃k:Nat,k≤gs.length∧n=gs.length-k∧s=k∧o=gs.take k) gs.length 0 [] ⟨0,by omega,by simp,rfl,by simp⟩ ?_
   rintro n s o ⟨k,hk,rfl,rfl,rfl⟩
   unfold f7_rhs1
   refine dec_split (fun hlt=>⟨by omega,hlt,?_,?_⟩) (fun hlt => ?_)
   · rw[List.length_take];omega
   · have hlt':k<gs.length:=by omega
     exact⟨gs.length-(k+1),by omega,_,_,rfl,k+1,by omega,rfl,wrap_next k _ hlt' (by simp only[maxLen];omega),by rw[take_next gs k hlt',←getD_nat' gs (0,0,0,0) k hlt',Int.toNat_natCast]⟩
   rw[take_all gs k (by omega)]
   refine f7_rule2 _ gl gs (fun n s o=>∃k:Nat,k≤gl.length∧n=gl.length-k∧s=k∧o=gl.take k) gl.length 0 [] ⟨0,by omega,by simp,rfl,by simp⟩ ?_
   rintro n s o ⟨k,hk,rfl,rfl,rfl⟩
   unfold f7_rhs2
   refine dec_split (fun hlt=>⟨by omega,hlt,?_,?_⟩) (fun hlt => ?_)
   · rw[List.length_take];omega
   · have hlt':k<gl.length:=by omega
     exact⟨gl.length-(k+1),by omega,_,_,rfl,k+1,by omega,rfl,wrap_next k _ hlt' (by simp only[maxLen];omega),by rw[take_next gl k hlt',←getD_nat' gl (0,(0,0,0,0),0,0) k hlt',Int.toNat_natCast]⟩
   rw[take_all gl k (by omega)]
   exact⟨rfl,rfl⟩
 · cases h
def consU1:Cons:=(4,con4_n)::(5,con5)::consU0
def twosU1:Cons2:=twosU0
def pansU1:Cons3:=pansU0
def itersU1:Cons4:=itersU0
abbrev eU1:Env:=envOf4 consU1 twosU1 pansU1 itersU1
theorem allconsU1:∀c∈consU1,ConOk Tryz.prog c:=all_cons ok4_n (all_cons ok5 allconsU0)
theorem alltwosU1:∀c∈twosU1,ConOk2 Tryz.prog c:=alltwosU0
theorem allpansU1:∀c∈pansU1,ConOk3 Tryz.prog c:=allpansU0
theorem allitersU1:∀c∈itersU1,ConOk4 Tryz.prog c:=allitersU0
theorem envU1:EnvOk Tryz.prog eU1:=envOf4_ok _ _ _ _ allconsU1 alltwosU1 allpansU1 allitersU1
def con3_n:List AV→Option Tells
 | [.list 80 (.pair (.int .i64) (.pair (.int .i64) (.pair (.int .i64) (.pair (.int .i64) (.pair (.int .i64) (.pair (.int .i64) (.pair (.pair (.int .i64) (.pair (.int .i64) (.pair (.int .i64) (.int .i64)))) (.pair (.int .i64) (.pair (.int .i64) (.pair (.int .i64) (.int .i64))))))))))) l,.agg (.cons (.list 46 (.pair (.int .i64) (.pair (.int .i64) (.pair (.int .i64) (.int .i64)))) gs) (.cons (.list 48 (.pair (.int .i64) (.pair (.pair (.int .i64) (.pair (.int .i64) (.pair (.int .i64) (.int .i64)))) (.pair (.int .i64) (.int .i64)))) gl) .nl))]=>some ⟨[begBad l gs gl 30=true],.bool true,[]⟩
 | _=>none
theorem f3_n_run (R:AV→List Ob→Prop) (l:List TB.den) (gs:List T4.den) (gl:List TL.den):fnA tab eU1 Tryz.f3 (bodyOf Tryz.f3) [.list 80 TB l,.agg (.cons (.list 46 T4 gs) (.cons (.list 48 TL gl) .nl))] R=(begBad l gs gl 30=true∧(0:Int)≤30∧(30:Int)≤1000∧R (AV.bool true) []):=by kernel_rfl
theorem ok3_n:ConOk Tryz.prog (3,con3_n):=by
 intro args t h hp
 change con3_n args=some t at h
 unfold con3_n at h
 split at h
 · rename_i l gs gl
   change List TB.den at l
   change List T4.den at gs
   change List TL.den at gl
   cases h
   refine fn_ok envU1 tab_ok mixed Tryz.func3 (by kernel_rfl) (by kernel_rfl) ?_
   rw[f3_n_run]
   try dsimp only
   exact⟨hp (begBad l gs gl 30=true) (by simp),by omega,by omega,rfl,rfl⟩
 · cases h
theorem beg_ok {l:List Bx} {gs:List R4} {gl:List Ln} {most:Int} (h:begBad l gs gl most=false):(chk6 l).2=0∧(l.length:Int)≤most∧(gs.length:Int)≤2*most∧(gl.length:Int)≤2*most∧gs.any badR=false∧(gl.any fun x=>badR x.2.1)=false:=by
 unfold begBad at h
 simp only[Bool.or_eq_false_iff,decide_eq_false_iff_not] at h
 obtain⟨h1,h2,h3,h4,h5,h6⟩:=h
 exact⟨bne_zero h1,by omega,by omega,by omega,h5,h6⟩
theorem refJ_len (l:List Bx) (gs:List R4) (gl:List Ln) (h2:l.length≤4096) (hg:gl.length≤4096):(refJ l gs gl).length≤117440512:=by
 unfold refJ
 have a1:=part_len (lnI l gl) (lnI_len l gl) gl.length
 have a2:=prR_len l gs 2 h2 l.length (Nat.le_refl _)
 have a3:=prR_len l gs 3 h2 l.length (Nat.le_refl _)
 have a4:=part_len (sdI l gs) (sdI_len l gs) l.length
 have a5:=prR_len l gs 5 h2 l.length (Nat.le_refl _)
 have a6:=agR_len l gs gl h2 gl.length hg
 have a7:=prR_len l gs 7 h2 l.length (Nat.le_refl _)
 split
 · simp only[List.length_append,lnR,prR,sdR,agR];omega
 · simp
def consU2:Cons:=(4,con4_t)::(5,con5)::(7,con7)::(8,con8)::[]
def twosU2:Cons2:=(6,con6)::[]
def pansU2:Cons3:=[]
def itersU2:Cons4:=[]
abbrev eU2:Env:=envOf4 consU2 twosU2 pansU2 itersU2
theorem allconsU2:∀c∈consU2,ConOk Tryz.prog c:=all_cons ok4_t (all_cons ok5 (all_cons ok7 (all_cons ok8 all_nil)))
theorem alltwosU2:∀c∈twosU2,ConOk2 Tryz.prog c:=all_cons ok6 all_nil
theorem allpansU2:∀c∈pansU2,ConOk3 Tryz.prog c:=all_nil
theorem allitersU2:∀c∈itersU2,ConOk4 Tryz.prog c:=all_nil
theorem envU2:EnvOk Tryz.prog eU2:=envOf4_ok _ _ _ _ allconsU2 alltwosU2 allpansU2 allitersU2
def con3_t:List AV→Option Tells
 | [.list 80 (.pair (.int .i64) (.pair (.int .i64) (.pair (.int .i64) (.pair (.int .i64) (.pair (.int .i64) (.pair (.int .i64) (.pair (.pair (.int .i64) (.pair (.int .i64) (.pair (.int .i64) (.int .i64)))) (.pair (.int .i64) (.pair (.int .i64) (.pair (.int .i64) (.int .i64))))))))))) l,.agg (.cons (.list 46 (.pair (.int .i64) (.pair (.int .i64) (.pair (.int .i64) (.int .i64)))) gs) (.cons (.list 48 (.pair (.int .i64) (.pair (.pair (.int .i64) (.pair (.int .i64) (.pair (.int .i64) (.int .i64)))) (.pair (.int .i64) (.int .i64)))) gl) .nl))]=>some ⟨[begBad l gs gl 30=false,judgeA ((buildN l 0 ([],[])).getD []) gs gl=refJ l gs gl,∀k:Nat,0<k→k<l.length→0≤par6 l k],.bool true,[]⟩
 | _=>none
def f3_t_live1:List Nat:=[34,33,34,32,34,7,34,4]
def f3_t_head1 (l:List TB.den) (gs:List T4.den) (gl:List TL.den) (s34:Int):St:={slots:=List.replicate 4 AV.undef++[AV.bool false,AV.undef,AV.undef,AV.row 0]++List.replicate 24 AV.undef++[AV.row 1,AV.int .i64 (↑(blk (judgeA ((buildN l 0 ([],[])).getD []) gs gl)).length:Int),AV.int .i64 s34]++List.replicate 11 AV.undef,obs:=[Ob.row 41 (KI.pair (KI.pair KI)) (blk (refJ l gs gl)),Ob.row 40 (KI.pair (KI.pair KI)) (blk (judgeA ((buildN l 0 ([],[])).getD []) gs gl))]}
def f3_t_q1 (R:AV→List Ob→Prop):Ex→St→Prop:=blockA 0 (seqQ tab eU2 (subC [1,1,1,1,1,1] (bodyOf Tryz.f3)) [4] (endA tab Tryz.f3 R))
def f3_t_loop1 (R:AV→List Ob→Prop) (l:List TB.den) (gs:List T4.den) (gl:List TL.den) (s34:Int):Prop:=loopT f3_t_live1 (codeA tab eU2 (subC [1,1,1,1,1,0,1,0,0] (bodyOf Tryz.f3)) f3_t_live1) (f3_t_head1 l gs gl s34) (f3_t_q1 R)
def f3_t_rhs1 (R:AV→List Ob→Prop) (l:List TB.den) (gs:List T4.den) (gl:List TL.den) (J:St→Prop) (s34:Int):Prop:=bif decide (s34<(↑(blk (judgeA ((buildN l 0 ([],[])).getD []) gs gl)).length:Int)) then 0≤s34∧s34<(↑(blk (judgeA ((buildN l 0 ([],[])).getD []) gs gl)).length:Int)∧0≤s34∧s34<(↑(blk (refJ l gs gl)).length:Int)∧bif !(((blk (judgeA ((buildN l 0 ([],[])).getD []) gs gl)).getD s34.toNat (0,0,0)).fst==((blk (refJ l gs gl)).getD s34.toNat (0,0,0)).fst&&(((blk (judgeA ((buildN l 0 ([],[])).getD []) gs gl)).getD s34.toNat (0,0,0)).snd.fst==((blk (refJ l gs gl)).getD s34.toNat (0,0,0)).snd.fst&&(((blk (judgeA ((buildN l 0 ([],[])).getD []) gs gl)).getD s34.toNat (0,0,0)).snd.snd==((blk (refJ l gs gl)).getD s34.toNat (0,0,0)).snd.snd&&true))) then R (AV.bool false) [] else J (f3_t_head1 l gs gl (IntKind.i64.wrap (s34+1))) else R (AV.bool true) []
theorem f3_t_eq1 (R:AV→List Ob→Prop) (l:List TB.den) (gs:List T4.den) (gl:List TL.den) (J:St→Prop) (s34:Int):codeA tab eU2 (subC [1,1,1,1,1,0,1,0,0] (bodyOf Tryz.f3)) f3_t_live1 (f3_t_head1 l gs gl s34) (thenA (fun s=>J (St.tidy f3_t_live1 s)) (f3_t_q1 R))=f3_t_rhs1 R l gs gl J s34:=by kernel_rfl
set_option maxHeartbeats 2000000 in
theorem f3_t_rule1 (R:AV→List Ob→Prop) (l:List TB.den) (gs:List T4.den) (gl:List TL.den) (I:Nat→(Int)→Prop) (n:Nat) (s34:Int) (h0:I n s34) (h:∀n,∀(s34:Int),I n s34→f3_t_rhs1 R l gs gl (fun t=>∃m,m<n∧∃(s34:Int),t=f3_t_head1 l gs gl s34∧I m s34) s34):f3_t_loop1 R l gs gl s34:=
 loop_intro (fun n t=>∃(s34:Int),t=f3_t_head1 l gs gl s34∧I n s34) n ⟨s34,rfl,h0⟩ (fun n t ht=>by obtain⟨s34,rfl,hI⟩:=ht;exact Eq.mpr (f3_t_eq1 R l gs gl (fun t=>∃m,m<n∧∃(s34:Int),t=f3_t_head1 l gs gl s34∧I m s34) s34) (h n s34 hI))
theorem f3_t_run (R:AV→List Ob→Prop) (l:List TB.den) (gs:List T4.den) (gl:List TL.den):fnA tab eU2 Tryz.f3 (bodyOf Tryz.f3) [.list 80 TB l,.agg (.cons (.list 46 T4 gs) (.cons (.list 48 TL gl) .nl))] R=(begBad l gs gl 30=false∧(0:Int)≤30∧(30:Int)≤1000∧gs.length≤65536∧gl.length≤65536∧TrOk ((buildN l 0 ([],[])).getD [])∧0<((buildN l 0 ([],[])).getD []).length∧gl.length≤65536∧l.length≤4096∧gl.length≤4096∧0<l.length∧(∀(k:Nat),0<k→k<l.length→0≤par6 l (↑k:Int))∧bif (↑(blk (judgeA ((buildN l 0 ([],[])).getD []) gs gl)).length:Int) != (↑(blk (refJ l gs gl)).length:Int) then R (AV.bool false) [] else f3_t_loop1 R l gs gl 0):=by kernel_rfl
theorem ok3_t:ConOk Tryz.prog (3,con3_t):=by
 intro args t h hp
 change con3_t args=some t at h
 unfold con3_t at h
 split at h
 · rename_i l gs gl
   change List TB.den at l
   change List T4.den at gs
   change List TL.den at gl
   cases h
   refine fn_ok envU2 tab_ok mixed Tryz.func3 (by kernel_rfl) (by kernel_rfl) ?_
   rw[f3_t_run]
   try dsimp only
   have hb:=hp (begBad l gs gl 30=false) (by simp)
   have hj:=hp (judgeA ((buildN l 0 ([],[])).getD []) gs gl=refJ l gs gl) (by simp)
   have hpa:=hp (∀k:Nat,0<k→k<l.length→0≤par6 l k) (by simp)
   clear hp
   obtain⟨b1,b2,b3,b4,_,_⟩:=beg_ok hb
   obtain⟨hl0,hs⟩:=build_some b1
   obtain⟨xs,hx⟩:=Option.isSome_iff_exists.1 hs
   have htr:=trOk_of hx hl0 (by omega)
   obtain⟨hxl,_,_⟩:=tree_of hx hl0
   have he:(buildN l 0 ([],[])).getD []=xs:=by rw[hx];rfl
   have hlen:=refJ_len l gs gl (by omega) (by omega)
   rw[blk_eq,blk_eq,hj]
   refine⟨hb,by omega,by omega,by omega,by omega,by rw[he];exact htr,by rw[he,hxl];exact hl0,by omega,by omega,by omega,hl0,hpa,cond_no (by simp) ?_⟩
   refine f3_t_rule1 _ l gs gl (fun n s=>∃k:Nat,s=k∧k≤(refJ l gs gl).length∧n=(refJ l gs gl).length-k) _ 0 ⟨0,rfl,by omega,rfl⟩ ?_
   rintro n s ⟨k,rfl,hk,rfl⟩
   unfold f3_t_rhs1
   simp only[blk_eq]
   rw[hj]
   refine dec_split (fun hlt=>⟨by omega,hlt,by omega,hlt,cond_no (by simp) ?_⟩) (fun hlt=>⟨trivial,trivial⟩)
   exact⟨(refJ l gs gl).length-(k+1),by omega,_,rfl,k+1,wrap_id _ (by omega),by omega,rfl⟩
 · cases h
end
end Go.Proofs.YtkpjcmiijlpcaaaGreat.W
set_option linter.unusedVariables false
set_option linter.unusedSimpArgs false
namespace Go.Proofs.YtkpjcmiijlpcaaaGreat.W
open Go Go.Proofs Go.Proofs.YtkpjcmiijlpcaaaGreat.Aw
theorem bld_one {l:List Bx} {k:Nat} {s:List Nd×List Int} (h:BldI l k s) (hc:∀j,j<k+1→ck6 l j=0):parN s.2 (l.getD k zBx).1=par6 l (k:Int):=by
 have hd:=ck_depth (hc k (by omega)) (fun e=>(ck6_zero (hc (k-1) (by omega))).2.1)
 unfold par6
 rw[Int.toNat_natCast,wrap_id ((l.getD k zBx).1-1) (by omega)]
 rcases Nat.eq_zero_or_pos k with hk | hk
 · subst hk
   have h0:=hd.2.2.1 rfl
   unfold parN
   rw[decide_eq_false (by omega),cond_false]
   rfl
 · have h1:=hd.2.2.2 hk
   have hl:=h.len.2 hk
   unfold parN
   rw[decide_eq_true (show (l.getD k zBx).1≥1 by omega),cond_true,decide_eq_true (show (l.getD k zBx).1≤(s.2.length:Int) by omega),cond_true,h.path _ (by omega)]
   congr 1
   omega
theorem bld_par {l:List Bx} (hc:∀j,j<l.length→ck6 l j=0):∀(f k:Nat) (s:List Nd×List Int) (xs:List Nd),l.length-k=f→k≤l.length→BldI l k s→(∀j:Nat,j<k→(s.1.getD j zNd).2.1=par6 l (j:Int))→buildN (l.drop k) k s=some xs→∀j:Nat,j<l.length→(xs.getD j zNd).2.1=par6 l (j:Int)
 | 0,k,s,xs,hf,hk,h,hp,hx=>by
  rw[List.drop_of_length_le (by omega)] at hx
  simp only[buildN,Option.some.injEq] at hx
  subst hx
  exact fun j hj=>hp j (by omega)
 | f+1,k,s,xs,hf,hk,h,hp,hx=>by
  have hlt:k<l.length:=by omega
  rw[List.drop_eq_getElem_cons hlt] at hx
  simp only[buildN] at hx
  have hg:l[k]=l.getD k zBx:=(getD_nat' l zBx k hlt).symm
  have hc':∀j,j<k+1→ck6 l j=0:=fun j hj=>hc j (by omega)
  rw[hg,bld_chk h hc'] at hx
  have hx:buildN (l.drop (k+1)) (k+1) (stepN s (l.getD k zBx) k)=some xs:=hx
  have hone:=bld_one h hc'
  have hplt:parN s.2 (l.getD k zBx).1<k:=by
   rw[hone];unfold par6;rw[Int.toNat_natCast];exact (parFrom_lt l _ k).2
  refine bld_par hc f (k+1) _ xs (by omega) (by omega) (bld_step h hc') (fun j hj => ?_) hx
  rcases Nat.lt_or_ge j k with hjk | hjk
  · rw[(step_old (s:=s) h.t.len _ j hjk).2.1];exact hp j hjk
  · have:j=k:=by omega
    subst this
    rw[(step_new (s:=s) h.t.len _ hplt).2.1];exact hone
theorem par_eq {l:List Bx} {xs:List Nd} (hc:(chk6 l).2=0) (hx:buildN l 0 ([],[])=some xs):∀j:Nat,j<l.length→(xs.getD j zNd).2.1=par6 l (j:Int):=
 bld_par (chk6_ok hc).2 l.length 0 ([],[]) xs (by omega) (by omega) ⟨tree_nil,fun j hj=>by omega,⟨fun _=>rfl,fun e=>by omega⟩,fun t ht=>by simp at ht⟩ (fun j hj=>by omega) (by rw[List.drop_zero];exact hx)
structure TreeL (l:List Bx) (xs:List Nd):Prop where
 len:xs.length=l.length
 box:∀j:Nat,j<l.length→(xs.getD j zNd).1=l.getD j zBx
 t:TreeX xs
 par:∀j:Int,0≤j→j<(l.length:Int)→parF xs j=par6 l j
 ck:∀j,j<l.length→ck6 l j=0
 pos:0<l.length
theorem treeL {l:List Bx} {xs:List Nd} (hc:(chk6 l).2=0) (hx:buildN l 0 ([],[])=some xs):TreeL l xs:=by
 obtain⟨h1,h2⟩:=chk6_ok hc
 obtain⟨t1,t2,t3⟩:=tree_of hx h1
 refine⟨t1,t2,t3,fun j h0 hj => ?_,h2,h1⟩
 show (ndAt xs j).2.1=_
 obtain⟨n,rfl⟩:∃n:Nat,j=n:=⟨j.toNat,by omega⟩
 rw[ndAt_in h0 (by omega),Int.toNat_natCast]
 exact par_eq hc hx n (by omega)
theorem TreeL.bx {l:List Bx} {xs:List Nd} (h:TreeL l xs) {j:Int} (h0:0≤j) (h1:j<(l.length:Int)):(ndAt xs j).1=l.getD j.toNat zBx:=by
 rw[ndAt_in h0 (by rw[h.len];exact h1)]
 exact h.box _ (by omega)
theorem open_eq (k:Int):(bif !k==2 then k==3 else true)=openB k:=rfl
theorem TreeL.op {l:List Bx} {xs:List Nd} (h:TreeL l xs) {j:Int} (h0:0≤j) (h1:j<(l.length:Int)):op6 l j=opF xs j:=by
 show _=openB (ndAt xs j).1.2.1
 rw[h.bx h0 h1,←open_eq];rfl
theorem TreeL.parN {l:List Bx} {xs:List Nd} (h:TreeL l xs) {j:Int} (h0:0<j) (h1:j<(l.length:Int)):0≤par6 l j∧par6 l j<j:=by
 rw[←h.par j (by omega) h1]
 exact⟨h.t.par_0 j h0 (by rw[h.len];exact h1),h.t.par_lt j (by omega) (by rw[h.len];exact h1)⟩
theorem TreeL.ctf {l:List Bx} {xs:List Nd} (h:TreeL l xs):∀(f:Nat) (p:Int),0≤p→p<(l.length:Int)→p.toNat≤f→ctF6 l f p=(bif opF xs p then p else ctF xs p)∧0≤ctF6 l f p
 | 0,p,h0,h1,hf=>by
  have:p=0:=by omega
  subst this
  rw[show opF xs 0=true from h.t.root]
  exact⟨rfl,Int.le_refl _⟩
 | f+1,p,h0,h1,hf=>by
  by_cases hp:p>0
  · rw[ctF6,decide_eq_true hp,cond_true,h.op h0 h1]
    cases ho:opF xs p with
    | true=>exact⟨rfl,h0⟩
    | false=>
     obtain⟨q0,q1⟩:=h.parN hp h1
     obtain⟨r1,r2⟩:=h.ctf f (par6 l p) q0 (by omega) (by omega)
     rw[cond_false,cond_false]
     refine⟨?_,r2⟩
     rw[r1,h.t.ct_eq p hp (by rw[h.len];exact h1),h.par p h0 h1]
  · have:p=0:=by omega
    subst this
    rw[show opF xs 0=true from h.t.root]
    exact⟨rfl,Int.le_refl _⟩
theorem TreeL.ctx {l:List Bx} {xs:List Nd} (h:TreeL l xs) {j:Int} (h0:0<j) (h1:j<(l.length:Int)):ctx6 l j=ctF xs j:=by
 obtain⟨q0,q1⟩:=h.parN h0 h1
 obtain⟨r1,r2⟩:=h.ctf j.toNat (par6 l j) q0 (by omega) (by omega)
 unfold ctx6
 rw[decide_eq_false (by omega),cond_false,r1,h.t.ct_eq j h0 (by rw[h.len];exact h1),h.par j (by omega) h1]
abbrev dp (l:List Bx) (j:Nat):Int:=(l.getD j zBx).1
theorem climb (l:List Bx) (D:Int) (k:Nat):∀n:Nat,(∀m,k≤m→m<k+n→dp l (m+1)≤dp l m+1)→dp l k≤D→D<dp l (k+n)→∃m,k≤m∧m<k+n∧dp l m=D
 | 0,_,h1,h2=>by rw[Nat.add_zero] at h2;omega
 | n+1,hs,h1,h2=>by
  by_cases h:D<dp l (k+n)
  · obtain⟨m,q1,q2,q3⟩:=climb l D k n (fun m a b=>hs m a (by omega)) h1 h
    exact⟨m,q1,by omega,q3⟩
  · have:=hs (k+n) (by omega) (by omega)
    exact⟨k+n,by omega,by omega,by rw[Nat.add_assoc] at this;omega⟩
theorem parFrom_last (l:List Bx) (d:Int):∀(k m:Nat),parFrom l d k=m→m<k∧dp l m=d∧∀j,m<j→j<k→dp l j≠d
 | 0,m,h=>by simp only[parFrom] at h;omega
 | k+1,m,h=>by
  simp only[parFrom] at h
  cases hd:((l.getD k zBx).1==d) with
  | true=>
   rw[hd,cond_true] at h
   have:k=m:=by omega
   subst this
   exact⟨by omega,beq_iff_eq.1 hd,fun j a b=>by omega⟩
  | false=>
   rw[hd,cond_false] at h
   obtain⟨q1,q2,q3⟩:=parFrom_last l d k m h
   refine⟨by omega,q2,fun j a b => ?_⟩
   rcases Nat.lt_or_ge j k with hj | hj
   · exact q3 j a hj
   · have:j=k:=by omega
     subst this
     exact beq_eq_false_iff_ne.1 hd
theorem parFrom_is (l:List Bx) (d:Int) (m:Nat) (hd:dp l m=d):∀k:Nat,m<k→(∀j,m<j→j<k→dp l j≠d)→parFrom l d k=m
 | 0,h,_=>by omega
 | k+1,h,hn=>by
  simp only[parFrom]
  rcases Nat.lt_or_ge m k with hk | hk
  · rw[show ((l.getD k zBx).1==d)=false from beq_eq_false_iff_ne.2 (hn k hk (by omega)),cond_false]
    exact parFrom_is l d m hd k hk (fun j a b=>hn j a (by omega))
  · have:m=k:=by omega
    subst this
    rw[show ((l.getD m zBx).1==d)=true from beq_iff_eq.2 hd,cond_true]
theorem endF6_spec (l:List Bx) (d:Int):∀f k:Nat,(∀m,k≤m→m<endF6 l d f k→dp l m>d)∧(endF6 l d f k<k+f→¬dp l (endF6 l d f k)>d)
 | 0,k=>⟨fun m a b=>by simp only[endF6] at b;omega,fun h=>by simp only[endF6] at h;omega⟩
 | f+1,k=>by
  simp only[endF6]
  by_cases h:(l.getD k zBx).1>d
  · rw[decide_eq_true h,cond_true]
    obtain⟨q1,q2⟩:=endF6_spec l d f (k+1)
    refine⟨fun m a b => ?_,fun hh=>q2 (by omega)⟩
    rcases Nat.lt_or_ge k m with hk | hk
    · exact q1 m hk b
    · have:m=k:=by omega
      subst this
      exact h
  · rw[decide_eq_false h,cond_false]
    exact⟨fun m a b=>by omega,fun _=>h⟩
theorem end6_spec (l:List Bx) (i j:Nat) (hi:i<l.length):(i<j∧j<end6 l i)↔(i<j∧j<l.length∧∀m,i<m→m≤j→dp l m>dp l i):=by
 obtain⟨e1,e2⟩:=end6_le l i hi
 obtain⟨q1,q2⟩:=endF6_spec l (l.getD i zBx).1 (l.length-(i+1)) (i+1)
 change (∀m,i+1≤m→m<end6 l i→_) at q1
 change (end6 l i<_→¬dp l (end6 l i)>_) at q2
 constructor
 · rintro ⟨a,b⟩
   exact⟨a,by omega,fun m c d=>q1 m c (by omega)⟩
 · rintro ⟨a,b,c⟩
   refine⟨a,?_⟩
   rcases Nat.lt_or_ge j (end6 l i) with h | h
   · exact h
   · exact absurd (c (end6 l i) (by omega) h) (q2 (by omega))
theorem kidF6_iff (l:List Bx) (d:Int):∀(f k:Nat) (x:Int),x∈kidF6 l d f k↔∃m:Nat,x=m∧k≤m∧m<k+f∧dp l m=d
 | 0,k,x=>by
  simp only[kidF6,List.not_mem_nil,false_iff]
  rintro ⟨m,_,a,b,_⟩
  omega
 | f+1,k,x=>by
  rw[kidF6,List.mem_append,kidF6_iff l d f (k+1) x]
  constructor
  · rintro (h | ⟨m,a,b,c,e⟩)
    · cases hd:((l.getD k zBx).1==d) with
      | true=>
       rw[hd,cond_true,List.mem_singleton] at h
       exact⟨k,h,by omega,by omega,beq_iff_eq.1 hd⟩
      | false=>rw[hd,cond_false] at h;simp at h
    · exact⟨m,a,by omega,by omega,e⟩
  · rintro ⟨m,a,b,c,e⟩
    rcases Nat.lt_or_ge k m with h | h
    · exact .inr ⟨m,a,by omega,by omega,e⟩
    · have:m=k:=by omega
      subst this
      left
      rw[show ((l.getD m zBx).1==d)=true from beq_iff_eq.2 e,cond_true,a]
      exact List.mem_singleton.2 rfl
theorem kidF6_sorted (l:List Bx) (d:Int):∀f k:Nat,(kidF6 l d f k).Pairwise (· < ·)
 | 0,k=>by simp[kidF6]
 | f+1,k=>by
  rw[kidF6,List.pairwise_append]
  refine⟨by cases ((l.getD k zBx).1==d)<;>simp,kidF6_sorted l d f (k+1),fun a ha b hb => ?_⟩
  obtain⟨m,e,q,_,_⟩:=(kidF6_iff l d f (k+1) b).1 hb
  cases hd:((l.getD k zBx).1==d) with
  | true=>rw[hd,cond_true,List.mem_singleton] at ha;omega
  | false=>rw[hd,cond_false] at ha;simp at ha
theorem TreeL.dep {l:List Bx} {xs:List Nd} (h:TreeL l xs) {j:Nat} (hj:j<l.length):0≤dp l j∧dp l j≤256∧(j=0→dp l j=0)∧(0<j→1≤dp l j∧dp l j≤dp l (j-1)+1):=
 ck_depth (h.ck j hj) (fun _=>(ck6_zero (h.ck (j-1) (by omega))).2.1)
theorem TreeL.kids_iff {l:List Bx} {xs:List Nd} (h:TreeL l xs) {i:Nat} (hi:i<l.length) (x:Int):x∈kids6 l i↔0<x∧x<(l.length:Int)∧par6 l x=i:=by
 have hdi:=h.dep hi
 obtain⟨e1,e2⟩:=end6_le l i hi
 unfold kids6
 rw[kidF6_iff,show IntKind.i64.wrap ((l.getD i zBx).1+1)=dp l i+1 from wrap_id (dp l i+1) (by omega)]
 constructor
 · rintro ⟨m,rfl,a,b,c⟩
   have hm:i<m∧m<end6 l i:=by omega
   obtain⟨q1,q2,q3⟩:=(end6_spec l i m hi).1 hm
   refine⟨by omega,by omega,?_⟩
   have hdm:=h.dep q2
   unfold par6
   rw[Int.toNat_natCast,show IntKind.i64.wrap ((l.getD m zBx).1-1)=dp l m-1 from wrap_id (dp l m-1) (by omega)]
   exact parFrom_is l _ i (by omega) m q1 (fun j a b=>by have:=q3 j a (by omega);omega)
 · rintro ⟨a,b,c⟩
   obtain⟨m,rfl⟩:∃m:Nat,x=m:=⟨x.toNat,by omega⟩
   have hm:m<l.length:=by omega
   have hdm:=h.dep hm
   unfold par6 at c
   rw[Int.toNat_natCast,show IntKind.i64.wrap ((l.getD m zBx).1-1)=dp l m-1 from wrap_id (dp l m-1) (by omega)] at c
   obtain⟨q1,q2,q3⟩:=parFrom_last l _ m i c
   have hall:∀k,i<k→k≤m→dp l k>dp l i:=by
    intro k k1 k2
    by_cases hk:dp l k>dp l i
    · exact hk
    · exfalso
      rcases Nat.lt_or_ge k m with hkm | hkm
      · obtain⟨z,z1,z2,z3⟩:=climb l (dp l i) k (m-k) (fun z z1 z2=>by have:=(h.dep (j:=z+1) (by omega)).2.2.2 (by omega);simpa using this.2) (by omega) (by rw[show k+(m-k)=m by omega];omega)
        exact q3 z (by omega) (by omega) (by omega)
      · have:k=m:=by omega
        subst this
        omega
   have hme:=(end6_spec l i m hi).2 ⟨q1,hm,hall⟩
   exact⟨m,rfl,by omega,by omega,by omega⟩
theorem TreeL.kids {l:List Bx} {xs:List Nd} (h:TreeL l xs) {i:Int} (h0:0≤i) (h1:i<(l.length:Int)):ksF xs i=kids6 l i.toNat:=by
 have hl:=h.len
 refine sorted_ext _ _ (h.t.sorted i h0 (by omega)) (kidF6_sorted l _ _ _) fun x => ?_
 rw[h.t.mem i x h0 (by omega),h.kids_iff (by omega)]
 constructor
 · rintro ⟨a,b,c⟩
   exact⟨a,by omega,by rw[←h.par x (by omega) (by omega),c];omega⟩
 · rintro ⟨a,b,c⟩
   exact⟨a,by omega,by rw[h.par x (by omega) (by omega),c];omega⟩
end Go.Proofs.YtkpjcmiijlpcaaaGreat.W
set_option linter.unusedVariables false
set_option linter.unusedSimpArgs false
namespace Go.Proofs.YtkpjcmiijlpcaaaGreat.W
open Go Go.Proofs Go.Proofs.YtkpjcmiijlpcaaaGreat.Aw
theorem TreeL.ctop {l:List Bx} {xs:List Nd} (h:TreeL l xs):∀(f:Nat) (j:Int),0<j→j<(l.length:Int)→j.toNat≤f→opF xs (ctF xs j)=true
 | 0,j,h0,_,hf=>by omega
 | f+1,j,h0,h1,hf=>by
  obtain⟨q0,q1⟩:=h.parN h0 h1
  rw[h.t.ct_eq j h0 (by rw[h.len];exact h1),h.par j (by omega) h1]
  cases ho:opF xs (par6 l j) with
  | true=>exact ho
  | false=>
   rw[cond_false]
   refine h.ctop f _ ?_ (by omega) (by omega)
   rcases Int.lt_or_eq_of_le q0 with q | q
   · exact q
   · rw[←q,show opF xs 0=true from h.t.root] at ho;cases ho
theorem ahX_eq {l:List Bx} {xs:List Nd} (h:TreeL l xs) (c at':Int) (i:Nat) (hi:i<l.length):((decide (0<(i:Int))&&ctF xs i==c) && !delB xs at' i)=ahX l i at' c:=by
 unfold ahX delB
 rw[h.bx (j:=(i:Int)) (by omega) (by omega)]
 by_cases h0:(0:Int)<i
 · rw[h.ctx h0 (by omega),decide_eq_true h0]
   by_cases h1:(i:Int)≥at'
   · rw[decide_eq_true h1,decide_eq_false (show ¬(i:Int)<at' by omega)]
     simp
   · rw[decide_eq_false h1,decide_eq_true (show (i:Int)<at' by omega)]
     rw[Int.toNat_natCast]
     unfold bne
     cases ((l.getD i zBx).2.1==2)<;>simp
 · rw[decide_eq_false h0]
   simp
theorem flt_eq {l:List Bx} {xs:List Nd} (h:TreeL l xs) (hl:l.length≤8192) (c at':Int):fltL xs c at'=((List.range l.length).filter fun i:Nat=>ahX l i at' c).map fun i:Nat=>(i:Int):=by
 have hm:=(ctx_walk h.t (by rw[h.len];exact hl) c).2
 unfold fltL
 rw[hm]
 cases ho:opF xs c with
 | true=>
  rw[cond_true]
  unfold memI
  rw[h.len,Int.toNat_natCast,List.filter_filter,List.filter_map]
  congr 1
  refine List.filter_congr fun i hi => ?_
  rw[←ahX_eq h c at' i (List.mem_range.1 hi)]
  show (!delB xs at' i&&(decide (0<(i:Int))&&ctF xs i==c))=_
  rw[Bool.and_comm]
 | false=>
  rw[cond_false]
  have:(List.range l.length).filter (fun i:Nat=>ahX l i at' c)=[]:=by
   refine List.filter_eq_nil_iff.2 fun i hi => ?_
   rw[←ahX_eq h c at' i (List.mem_range.1 hi)]
   intro hh
   simp only[Bool.and_eq_true,decide_eq_true_eq,beq_iff_eq] at hh
   have:=h.ctop i (i:Int) hh.1.1 (by have:=List.mem_range.1 hi;omega) (by omega)
   rw[hh.1.2,ho] at this
   cases this
  rw[this]
  rfl
theorem flat_filter {α β:Type} (p:α→Bool) (g:α→List β):∀xs:List α,xs.flatMap (fun i=>bif p i then g i else [])=(xs.filter p).flatMap g
 | []=>rfl
 | x::xs=>by
  rw[List.flatMap_cons,flat_filter p g xs,List.filter_cons]
  cases p x<;>rfl
theorem filter_ahead (l:List Bx) (c:Int):∀n k:Nat,k≤n→(List.range n).filter (fun i:Nat=>ahX l i k c)=(List.range k).filter fun i:Nat=>ahX l i k c
 | 0,k,h=>by rw[show k=0 by omega]
 | n+1,k,h=>by
  rcases Nat.lt_or_ge n k with hk | hk
  · rw[show k=n+1 by omega]
  · rw[List.range_succ,List.filter_append,filter_ahead l c n k hk]
    have:ahX l n k c=false:=by
     unfold ahX
     rw[decide_eq_false (show ¬(n:Int)<(k:Int) by omega)]
     simp
    simp[this]
theorem fnd_app (so:Bool) (f:Ft) (fs:List Ft):fnd so f fs=fs++bif so then [f] else []:=by
 cases so<;>simp[fnd]
theorem fold_app {g:List Ft→Int→List Ft} {q:Int→List Ft} (h:∀fs i,g fs i=fs++q i):∀(l:List Int) (fs:List Ft),l.foldl g fs=fs++l.flatMap q
 | [],fs=>by simp
 | x::l,fs=>by rw[List.foldl_cons,h,fold_app h l,List.flatMap_cons,List.append_assoc]
end Go.Proofs.YtkpjcmiijlpcaaaGreat.W
set_option linter.unusedVariables false
set_option linter.unusedSimpArgs false
namespace Go.Proofs.YtkpjcmiijlpcaaaGreat.W
open Go Go.Proofs Go.Proofs.YtkpjcmiijlpcaaaGreat.Aw
def atoms (l:List Bx) (ks:List Int):List Int:=ks.filter fun i=>(l.getD i.toNat zBx).2.1==5
theorem atoms_len (l:List Bx) (ks:List Int):(atoms l ks).length≤ks.length:=List.length_filter_le _ _
theorem atomL_get (l:List Bx):∀(ks:List Int) (n:Int),ks.length≤4096 → -9223372036854775808≤n→n≤9223372036854775807→atomL l ks n=if 0≤n then (atoms l ks).getD n.toNat (-1) else -1
 | [],n,_,_,_=>by
  simp only[atomL,atoms,List.filter_nil]
  split
  · simp
  · rfl
 | i::r,n,hl,h0,h1=>by
  simp only[List.length_cons] at hl
  have hr:=atoms_len l r
  simp only[atomL]
  cases hk:((l.getD i.toNat zBx).2.1==5) with
  | false=>
   rw[cond_false,atomL_get l r n (by omega) h0 h1]
   have:atoms l (i::r)=atoms l r:=by unfold atoms;rw[List.filter_cons,hk];rfl
   rw[this]
  | true=>
   have ha:atoms l (i::r)=i::atoms l r:=by unfold atoms;rw[List.filter_cons,hk];rfl
   rw[cond_true,ha]
   by_cases hz:n=0
   · subst hz;rfl
   · rw[show (n==0)=false from beq_eq_false_iff_ne.2 hz,cond_false]
     by_cases hp:0≤n
     · rw[wrap_id (n-1) (by omega),atomL_get l r (n-1) (by omega) (by omega) (by omega),if_pos (by omega),if_pos hp]
       obtain⟨m,rfl⟩:∃m:Nat,n=(m+1:Nat):=⟨(n-1).toNat,by omega⟩
       rw[show (((m+1:Nat):Int)-1).toNat=m by omega,Int.toNat_natCast]
       rfl
     · rw[if_neg hp]
       by_cases hm:n = -9223372036854775808
       · have hw:IntKind.i64.wrap (n-1)=9223372036854775807:=by subst hm;rfl
         rw[hw,atomL_get l r _ (by omega) (by omega) (by omega),if_pos (by omega)]
         exact getD_out _ _ _ (by omega)
       · rw[wrap_id (n-1) (by omega),atomL_get l r (n-1) (by omega) (by omega) (by omega),if_neg (by omega)]
theorem rightF_iff (l:List Bx) (n fi am:Int):∀(f k:Nat),rightF l n fi am f k=true↔∃m:Nat,k≤m∧m<k+f∧(atomL l (kids6 l n.toNat) m=fi∧fi≥0)∧(∀j:Nat,k≤j→j<m→¬(atomL l (kids6 l n.toNat) j=fi∧fi≥0))∧atomL l (kids6 l n.toNat) (IntKind.i64.wrap (IntKind.i64.wrap ((m:Int)+am)-1))≥0
 | 0,k=>by
  simp only[rightF]
  constructor
  · intro h;cases h
  · rintro ⟨m,a,b,_⟩;omega
 | f+1,k=>by
  simp only[rightF]
  by_cases h:atomL l (kids6 l n.toNat) k=fi∧fi≥0
  · rw[show (atomL l (kids6 l n.toNat) (k:Int)==fi)=true from beq_iff_eq.2 h.1,decide_eq_true h.2,cond_true,cond_true,decide_eq_true_eq]
    constructor
    · intro hh;exact⟨k,Nat.le_refl _,by omega,h,fun j a b=>by omega,hh⟩
    · rintro ⟨m,a,b,c,d,e⟩
      rcases Nat.lt_or_ge k m with hk | hk
      · exact absurd h (d k (Nat.le_refl _) hk)
      · rw[show m=k by omega] at e;exact e
  · have hc:(bif atomL l (kids6 l n.toNat) (k:Int)==fi then decide (fi≥0) else false)=false:=by
     by_cases h1:atomL l (kids6 l n.toNat) k=fi
     · rw[show (atomL l (kids6 l n.toNat) (k:Int)==fi)=true from beq_iff_eq.2 h1,cond_true,decide_eq_false (fun h2=>h ⟨h1,h2⟩)]
     · rw[show (atomL l (kids6 l n.toNat) (k:Int)==fi)=false from beq_eq_false_iff_ne.2 h1,cond_false]
    rw[hc,cond_false,rightF_iff l n fi am f (k+1)]
    constructor
    · rintro ⟨m,a,b,c,d,e⟩
      refine⟨m,by omega,by omega,c,fun j a' b' => ?_,e⟩
      rcases Nat.lt_or_ge k j with hk | hk
      · exact d j hk b'
      · rw[show j=k by omega];exact h
    · rintro ⟨m,a,b,c,d,e⟩
      rcases Nat.lt_or_ge k m with hk | hk
      · exact⟨m,hk,by omega,c,fun j a' b'=>d j (by omega) b',e⟩
      · rw[show m=k by omega] at c;exact absurd c h
theorem count_from:∀(A:List Int) (m:Nat),A.Pairwise (· < ·)→m<A.length→(A.filter fun i=>decide (i≥A.getD m 0)).length=A.length-m
 | [],m,_,h=>by simp at h
 | a::r,0,hs,_=>by
  have hs:=(List.pairwise_cons.1 hs).1
  have:(a::r).filter (fun i=>decide (i≥(a::r).getD 0 0))=a::r:=by
   refine List.filter_eq_self.2 fun x hx => ?_
   rcases List.mem_cons.1 hx with rfl | hx
   · simp
   · have:=hs x hx
     simp;omega
  rw[this,Nat.sub_zero]
 | a::r,m+1,hs,h=>by
  obtain⟨h1,h2⟩:=List.pairwise_cons.1 hs
  have hm:m<r.length:=by simpa using h
  have e:(a::r).getD (m+1) 0=r.getD m 0:=rfl
  have hlt:=h1 _ (getD_memN r m hm 0)
  rw[e,List.filter_cons,if_neg (by rw[decide_eq_true_eq];omega),count_from r m h2 hm,List.length_cons]
  omega
theorem nd_in {xs:List Nd} {j:Int} (h:(ndAt xs j).1.2.1≠0):0≤j∧j<(xs.length:Int):=by
 by_cases hj:0≤j∧j<(xs.length:Int)
 · exact hj
 · rw[ndAt_out hj] at h
   exact absurd rfl h
theorem atoms_val {l:List Bx} {K:List Int} (hK:K.length≤4096) (h0:∀x∈K,0≤x) {m:Nat} (hm:m<(atoms l K).length) {am:Int} (ha:1≤am) (hb:am≤9223372036854775807) :
 atomL l K (IntKind.i64.wrap (IntKind.i64.wrap ((m:Int)+am)-1))≥0↔am≤((atoms l K).length-m:Nat):=by
 have hl:=atoms_len l K
 have hpos:∀x∈atoms l K,0≤x:=fun x hx=>h0 x (List.mem_filter.1 hx).1
 by_cases hw:(m:Int)+am≤9223372036854775807
 · rw[wrap_id ((m:Int)+am) (by omega),wrap_id ((m:Int)+am-1) (by omega),atomL_get l K _ hK (by omega) (by omega),if_pos (by omega)]
   obtain⟨q,hq⟩:∃q:Nat,(m:Int)+am-1=q:=⟨((m:Int)+am-1).toNat,by omega⟩
   rw[hq,Int.toNat_natCast]
   rcases Nat.lt_or_ge q (atoms l K).length with h | h
   · have:=hpos _ (getD_memN _ q h (-1))
     constructor
     · intro _;omega
     · intro _;exact this
   · rw[getD_out _ _ _ h]
     constructor
     · intro hh;omega
     · intro hh;omega
 · have e1:IntKind.i64.wrap ((m:Int)+am)=(m:Int)+am-18446744073709551616:=by
    rw[IntKind.wrap_i64];omega
   rw[e1]
   have hneg:¬am≤((atoms l K).length-m:Nat):=by omega
   refine⟨fun hh => ?_,fun hh=>absurd hh hneg⟩
   exfalso
   by_cases h2:(m:Int)+am=9223372036854775808
   · have e2:IntKind.i64.wrap ((m:Int)+am-18446744073709551616-1)=9223372036854775807:=by
      rw[IntKind.wrap_i64];omega
     rw[e2,atomL_get l K _ hK (by omega) (by omega),if_pos (by omega),getD_out _ _ _ (by omega)] at hh
     omega
   · rw[wrap_id _ (by omega),atomL_get l K _ hK (by omega) (by omega),if_neg (by omega)] at hh
     omega
theorem atomN_eq {l:List Bx} {xs:List Nd} (h:TreeL l xs) {K:List Int} (hK:∀x∈K,0≤x∧x<(l.length:Int)) (fi:Int):atomN xs fi K=((atoms l K).filter fun i=>decide (i≥fi)).length:=by
 unfold atomN atoms
 rw[List.filter_filter]
 congr 1
 refine List.filter_congr fun i hi => ?_
 obtain⟨a,b⟩:=hK i hi
 rw[h.bx a b]
theorem right_eq {l:List Bx} {xs:List Nd} (h:TreeL l xs) (hl:l.length≤4096) (n:Ln) (hr:n.2.2.2≤9223372036854775807):rightB xs n.1 n.2.2.1 n.2.2.2=rightX l n:=by
 obtain⟨at',bx,fi,am⟩:=n
 show rightB xs at' fi am=_
 have hlen:=h.len
 rw[Bool.eq_iff_iff]
 have hB:rightB xs at' fi am=true↔(ndAt xs at').1.2.1=4∧(ndAt xs fi).1.2.1=5∧parF xs fi=at'∧1≤am∧am≤(atomN xs fi (ksF xs at'):Int):=by
  unfold rightB wrongB
  by_cases c1:(ndAt xs at').1.2.1=4<;>by_cases c2:(ndAt xs fi).1.2.1=5<;>by_cases c3:(ndAt xs fi).2.1=at'<;>by_cases c4:am<1<;>simp[c1,c2,c3,c4]<;>omega
 have hX:rightX l (at',bx,fi,am)=true↔0≤at'∧at'<(l.length:Int)∧(l.getD at'.toNat zBx).2.1=4∧1≤am∧rightF l at' fi am l.length 0=true:=by
  show (bif !decide (at'<0) then (bif !decide (at'≥(l.length:Int)) then (bif !(l.getD at'.toNat zBx).2.1 != 4 then (bif decide (am<1) then false else rightF l at' fi am l.length 0) else false) else false) else false)=true↔_
  by_cases c1:at'<0
  · rw[decide_eq_true c1]
    exact⟨fun h=>(by cases h),fun h=>by omega⟩
  rw[decide_eq_false c1,Bool.not_false,cond_true]
  by_cases c2:at'≥(l.length:Int)
  · rw[decide_eq_true c2]
    exact⟨fun h=>(by cases h),fun h=>by omega⟩
  rw[decide_eq_false c2,Bool.not_false,cond_true]
  by_cases c3:(l.getD at'.toNat zBx).2.1=4
  · rw[show ((l.getD at'.toNat zBx).2.1 != 4)=false by rw[c3];rfl,Bool.not_false,cond_true]
    by_cases c4:am<1
    · rw[decide_eq_true c4]
      exact⟨fun h=>(by cases h),fun h=>by omega⟩
    · rw[decide_eq_false c4,cond_false]
      exact⟨fun h=>⟨by omega,by omega,c3,by omega,h⟩,fun h=>h.2.2.2.2⟩
  · rw[show ((l.getD at'.toNat zBx).2.1 != 4)=true from bne_iff_ne.2 c3,Bool.not_true,cond_false]
    exact⟨fun h=>(by cases h),fun h=>absurd h.2.2.1 c3⟩
 rw[hB,hX]
 have core:∀(a0:0≤at') (a1:at'<(l.length:Int)) (m:Nat),1≤am→m<(atoms l (kids6 l at'.toNat)).length→(atoms l (kids6 l at'.toNat)).getD m 0=fi →
  atomL l (kids6 l at'.toNat) m=fi∧0≤fi∧(∀j:Nat,j<m→atomL l (kids6 l at'.toNat) j≠fi)∧m<l.length∧(atomL l (kids6 l at'.toNat) (IntKind.i64.wrap (IntKind.i64.wrap ((m:Int)+am)-1))≥0↔am≤(atomN xs fi (ksF xs at'):Int)):=by
  intro a0 a1 m h1 hm he
  obtain⟨k1,k2⟩:=kids6_mem l at'.toNat (by omega)
  have hl2:=atoms_len l (kids6 l at'.toNat)
  have hso:(atoms l (kids6 l at'.toNat)).Pairwise (· < ·):=(kidF6_sorted l _ _ _).filter _
  have hget:∀j:Nat,j<(atoms l (kids6 l at'.toNat)).length→atomL l (kids6 l at'.toNat) (j:Int)=(atoms l (kids6 l at'.toNat)).getD j 0:=by
   intro j hj
   rw[atomL_get l _ _ (by omega) (by omega) (by omega),if_pos (by omega),Int.toNat_natCast]
   simp[List.getD,List.getElem?_eq_getElem hj]
  have hfi:0≤fi:=by
   rw[←he]
   have:=(k1 _ (List.mem_filter.1 (getD_memN _ m hm 0)).1).1
   omega
  refine⟨by rw[hget m hm,he],hfi,fun j hj => ?_,by omega,?_⟩
  · rw[hget j (by omega),←he]
    have:=List.pairwise_iff_getElem.1 hso j m (by omega) hm hj
    simp only[List.getD,List.getElem?_eq_getElem hm,List.getElem?_eq_getElem (show j<(atoms l (kids6 l at'.toNat)).length by omega),Option.getD_some]
    omega
  · rw[atoms_val (by omega) (fun x hx=>by have:=(k1 x hx).1;omega) hm h1 hr,h.kids a0 a1,atomN_eq h (fun x hx=>by have:=k1 x hx;omega),←he,count_from _ _ hso hm]
 constructor
 · rintro ⟨k4,k5,pe,h1,hc⟩
   obtain⟨a0,a1⟩:=nd_in (xs:=xs) (j:=at') (by omega)
   obtain⟨f0,f1⟩:=nd_in (xs:=xs) (j:=fi) (by omega)
   rw[hlen] at a1 f1
   rw[h.bx a0 a1] at k4
   rw[h.bx f0 f1] at k5
   have hf:0<fi:=by
    rcases Int.lt_or_eq_of_le f0 with q | q
    · exact q
    · have:=h.t.par_lt fi f0 (by omega)
      omega
   have hmem:fi∈kids6 l at'.toNat:=(h.kids_iff (by omega) fi).2 ⟨hf,f1,by rw[←h.par fi f0 f1,pe];omega⟩
   have hat:fi∈atoms l (kids6 l at'.toNat):=List.mem_filter.2 ⟨hmem,by rw[k5];rfl⟩
   obtain⟨m,hm,he⟩:=List.getElem_of_mem hat
   have he':(atoms l (kids6 l at'.toNat)).getD m 0=fi:=by simp[List.getD,List.getElem?_eq_getElem hm,he]
   obtain⟨c1,c2,c3,c4,c5⟩:=core a0 a1 m h1 hm he'
   exact⟨a0,a1,k4,h1,(rightF_iff l at' fi am l.length 0).2 ⟨m,Nat.zero_le _,by omega,⟨c1,c2⟩,fun j _ hj hh=>c3 j hj hh.1,c5.2 hc⟩⟩
 · rintro ⟨a0,a1,k4,h1,hF⟩
   obtain⟨m,_,hm0,⟨e1,e2⟩,_,e4⟩:=(rightF_iff l at' fi am l.length 0).1 hF
   obtain⟨k1,k2⟩:=kids6_mem l at'.toNat (by omega)
   have hl2:=atoms_len l (kids6 l at'.toNat)
   have e1':=e1
   rw[atomL_get l _ _ (by omega) (by omega) (by omega),if_pos (by omega),Int.toNat_natCast] at e1'
   have hm:m<(atoms l (kids6 l at'.toNat)).length:=by
    rcases Nat.lt_or_ge m (atoms l (kids6 l at'.toNat)).length with q | q
    · exact q
    · rw[getD_out _ _ _ q] at e1';omega
   have he':(atoms l (kids6 l at'.toNat)).getD m 0=fi:=by
    rw[←e1'];simp[List.getD,List.getElem?_eq_getElem hm]
   obtain⟨c1,c2,c3,c4,c5⟩:=core a0 a1 m h1 hm he'
   have hmem:=List.mem_filter.1 (getD_memN _ m hm 0)
   rw[he'] at hmem
   obtain⟨g1,g2,g3⟩:=(h.kids_iff (by omega) fi).1 hmem.1
   refine⟨by rw[h.bx a0 a1];exact k4,by rw[h.bx (by omega) g2];exact beq_iff_eq.1 hmem.2,by rw[h.par fi (by omega) g2,g3];omega,h1,c5.1 e4⟩
end Go.Proofs.YtkpjcmiijlpcaaaGreat.W
set_option linter.unusedVariables false
set_option linter.unusedSimpArgs false
namespace Go.Proofs.YtkpjcmiijlpcaaaGreat.W
open Go Go.Proofs Go.Proofs.YtkpjcmiijlpcaaaGreat.Aw
theorem grI_max (a b:Int):grI a b=max a b:=by
 unfold grI
 by_cases h:a>b
 · rw[decide_eq_true h,cond_true];omega
 · rw[decide_eq_false h,cond_false];omega
theorem hasR_iff (r:R4) (x y:Int):hasR r x y=true↔x≥r.1∧x<r.2.2.1∧y≥r.2.1∧y<r.2.2.2:=by
 unfold hasR
 by_cases c1:x≥r.1<;>by_cases c2:x<r.2.2.1<;>by_cases c3:y≥r.2.1<;>by_cases c4:y<r.2.2.2<;>simp[c1,c2,c3,c4]
def Sm (r:R4):Prop:=(-1152921504606846976≤r.1∧r.1≤1152921504606846976)∧(-1152921504606846976≤r.2.1∧r.2.1≤1152921504606846976)∧(-1152921504606846976≤r.2.2.1∧r.2.2.1≤1152921504606846976)∧(-1152921504606846976≤r.2.2.2∧r.2.2.2≤1152921504606846976)
theorem meet6_iff (r s:R4):meet6 r s=true↔max r.1 s.1<min r.2.2.1 s.2.2.1∧max r.2.1 s.2.1<min r.2.2.2 s.2.2.2:=by
 unfold meet6
 rw[grI_max,grI_max]
 cases h:hasR r (max r.1 s.1) (max r.2.1 s.2.1) with
 | true=>
  have h:=(hasR_iff _ _ _).1 h
  rw[cond_true,hasR_iff]
  omega
 | false=>
  have h:¬_:=fun hh=>by rw[(hasR_iff r (max r.1 s.1) (max r.2.1 s.2.1)).2 hh] at h;cases h
  rw[cond_false]
  constructor
  · intro hh;cases hh
  · intro hh;exact absurd (by omega) h
theorem meetR_iff {r s:R4} (hr:Sm r) (hs:Sm s):meetR r s=true↔max r.1 s.1<min r.2.2.1 s.2.2.1∧max r.2.1 s.2.1<min r.2.2.2 s.2.2.2:=by
 obtain⟨a1,a2,a3,a4⟩:=hr
 obtain⟨b1,b2,b3,b4⟩:=hs
 unfold meetR fullW
 rw[wrap_id _ (by omega),wrap_id _ (by omega),Bool.and_eq_true,decide_eq_true_eq,decide_eq_true_eq]
 omega
theorem meet_eq6 {r s:R4} (hr:Sm r) (hs:Sm s):meetR r s=meet6 r s:=by
 rw[Bool.eq_iff_iff,meetR_iff hr hs,meet6_iff]
theorem meet_sym6 {r s:R4} (hr:Sm r) (hs:Sm s):meetR r s=meet6 s r:=by
 rw[Bool.eq_iff_iff,meetR_iff hr hs,meet6_iff]
 omega
theorem badN_no {n:Int} (h:badN n=false) : -288230376151711744≤n∧n≤288230376151711744:=by
 unfold badN at h
 by_cases h1:n>288230376151711744
 · rw[decide_eq_true h1] at h;cases h
 · rw[decide_eq_false h1] at h
   have:¬n < -288230376151711744:=of_decide_eq_false h
   omega
def Ge (r:R4):Prop:=(-288230376151711744≤r.1∧r.1≤288230376151711744)∧(-288230376151711744≤r.2.1∧r.2.1≤288230376151711744)∧(-288230376151711744≤r.2.2.1∧r.2.2.1≤288230376151711744)∧(-288230376151711744≤r.2.2.2∧r.2.2.2≤288230376151711744)
theorem badR_no {r:R4} (h:badR r=false):Ge r:=by
 unfold badR at h
 simp only[Bool.or_eq_false_iff] at h
 exact⟨badN_no h.1,badN_no h.2.1,badN_no h.2.2.1,badN_no h.2.2.2⟩
theorem ge_get {gs:List R4} (h:gs.any badR=false) (k:Nat):Ge (gs.getD k (0,0,0,0)):=by
 rcases Nat.lt_or_ge k gs.length with hk | hk
 · exact badR_no (by have:=List.any_eq_false.1 h _ (getD_memN gs k hk (0,0,0,0));simpa using this)
 · rw[getD_out _ _ _ hk]
   refine⟨?_,?_,?_,?_⟩<;>simp
theorem Ge.sm {r:R4} (h:Ge r):Sm r:=by
 obtain⟨a,b,c,d⟩:=h
 exact⟨by omega,by omega,by omega,by omega⟩
abbrev OkB (b:Bx):Prop:=OkBx b.1 b.2.1 b.2.2.1 b.2.2.2.1 b.2.2.2.2.1 b.2.2.2.2.2.1 b.2.2.2.2.2.2.1.1 b.2.2.2.2.2.2.1.2.1 b.2.2.2.2.2.2.1.2.2.1 b.2.2.2.2.2.2.1.2.2.2 b.2.2.2.2.2.2.2.1 b.2.2.2.2.2.2.2.2.1 b.2.2.2.2.2.2.2.2.2.1 b.2.2.2.2.2.2.2.2.2.2
theorem TreeL.ok {l:List Bx} {xs:List Nd} (h:TreeL l xs) {j:Nat} (hj:j<l.length):OkB (l.getD j zBx):=c33b_ok (ck6_zero (h.ck j hj)).2.1
theorem mg_eq {l:List Bx} {xs:List Nd} (h:TreeL l xs) (gs:List R4) {j:Int} (h0:0≤j) (h1:j<(l.length:Int)):mgL xs gs j=mg6 l gs j:=by
 unfold mgL mg6
 rw[h.bx h0 h1]
theorem mg_sm {b:Bx} {r:R4} (hb:OkB b) (hr:Ge r):Sm (mgW b r):=by
 obtain⟨a1,a2,a3,a4⟩:=hr
 have b1:=hb.big b.2.2.2.2.2.2.1.1 (by simp)
 have b2:=hb.big b.2.2.2.2.2.2.1.2.1 (by simp)
 have b3:=hb.big b.2.2.2.2.2.2.1.2.2.1 (by simp)
 have b4:=hb.big b.2.2.2.2.2.2.1.2.2.2 (by simp)
 unfold mgW Sm
 simp only
 rw[wrap_id _ (by omega),wrap_id _ (by omega),wrap_id _ (by omega),wrap_id _ (by omega)]
 omega
theorem mg6_sm {l:List Bx} {xs:List Nd} (h:TreeL l xs) {gs:List R4} (hg:gs.any badR=false) {j:Int} (h0:0≤j) (h1:j<(l.length:Int)):Sm (mg6 l gs j):=
 mg_sm (h.ok (by omega)) (ge_get hg _)
theorem side_eq {l:List Bx} {xs:List Nd} (h:TreeL l xs) (gs:List R4) {j:Int} (h0:0<j) (h1:j<(l.length:Int)) (hk:(l.getD j.toNat zBx).2.1=2) :
 sideW (ndAt xs j).1 (mgL xs gs j) (ndAt xs (parL xs j)).1.2.2.2.2.2.2.2 (gs.getD (parL xs j).toNat (0,0,0,0)).1 (gs.getD (parL xs j).toNat (0,0,0,0)).2.2.1=sideX l gs j:=by
 obtain⟨q0,q1⟩:=h.parN h0 h1
 have hp:parL xs j=par6 l j:=h.par j (by omega) h1
 have hs:=(h.ok (j:=j.toNat) (by omega)).side.1 hk
 rw[mg_eq h gs (by omega) h1,hp,h.bx (by omega) h1,h.bx q0 (by omega)]
 unfold sideW sideX
 rcases hs with hs | hs
 · rw[hs]
   cases decide ((mg6 l gs j).1<_)<;>rfl
 · rw[hs];rfl
theorem clr_eq (c s:Int) (hs:s=1∨s=2):(bif c==3 then true else c==s)=clr6 c s:=by
 unfold clr6
 by_cases h3:c=3
 · subst h3;rfl
 · rw[show (c==3)=false from beq_eq_false_iff_ne.2 h3,Bool.not_false,cond_true,cond_false]
   by_cases h0:c=0
   · subst h0
     rcases hs with rfl | rfl<;>rfl
   · rw[show (c != 0)=true from bne_iff_ne.2 h0,cond_true]
end Go.Proofs.YtkpjcmiijlpcaaaGreat.W
set_option linter.unusedVariables false
set_option linter.unusedSimpArgs false
namespace Go.Proofs.YtkpjcmiijlpcaaaGreat.W
open Go Go.Proofs Go.Proofs.YtkpjcmiijlpcaaaGreat.Aw
theorem perm_flat {α β:Type} (f g:α→List β):∀xs:List α,(xs.flatMap fun x=>f x++g x).Perm (xs.flatMap f++xs.flatMap g)
 | []=>List.Perm.refl _
 | x::xs=>by
  simp only[List.flatMap_cons]
  have h:=perm_flat f g xs
  refine ((h.append_left (f x++g x))).trans ?_
  rw[List.append_assoc,List.append_assoc]
  refine List.Perm.append_left _ ?_
  rw[←List.append_assoc,←List.append_assoc]
  exact List.Perm.append_right _ List.perm_append_comm
def eR (l:List Bx) (gs:List R4) (r:Int) (k i:Nat):List Ft:=bif pairX l gs r k i then [(r,(k:Int),(i:Int))] else []
def ahd (l:List Bx) (k:Nat):List Nat:=(List.range k).filter fun i:Nat=>ahX l i k (ctx6 l k)
theorem prI_eq (l:List Bx) (gs:List R4) (r:Int) (k:Nat):prI l gs r k=(ahd l k).flatMap (eR l gs r k):=by
 unfold prI ahd
 rw[←flat_filter]
 congr 1
 funext i
 unfold prE eR
 cases ahX l i k (ctx6 l k)<;>rfl
def partP (l:List Bx) (gs:List R4) (k:Nat):List Ft:=sdI l gs k++(ahd l k).flatMap fun i=>eR l gs 2 k i++(eR l gs 3 k i++(eR l gs 5 k i++eR l gs 7 k i))
theorem part_perm (l:List Bx) (gs:List R4) (k:Nat):(partP l gs k).Perm (sdI l gs k++(prI l gs 2 k++(prI l gs 3 k++(prI l gs 5 k++prI l gs 7 k)))):=by
 unfold partP
 refine List.Perm.append_left _ ?_
 rw[prI_eq,prI_eq,prI_eq,prI_eq]
 refine (perm_flat _ _ _).trans (List.Perm.append_left _ ?_)
 refine (perm_flat _ _ _).trans (List.Perm.append_left _ ?_)
 exact perm_flat _ _ _
theorem perm_maps {α β:Type} {f g:α→List β} (h:∀x,(f x).Perm (g x)):∀xs:List α,(xs.flatMap f).Perm (xs.flatMap g)
 | []=>List.Perm.refl _
 | x::xs=>by
  simp only[List.flatMap_cons]
  exact (h x).append (perm_maps h xs)
theorem parts_perm (l:List Bx) (gs:List R4):((List.range l.length).flatMap (partP l gs)).Perm (sdR l gs++(prR l gs 2++(prR l gs 3++(prR l gs 5++prR l gs 7)))):=by
 refine (perm_maps (part_perm l gs) _).trans ?_
 refine (perm_flat _ _ _).trans (List.Perm.append_left _ ?_)
 refine (perm_flat _ _ _).trans (List.Perm.append_left _ ?_)
 refine (perm_flat _ _ _).trans (List.Perm.append_left _ ?_)
 exact perm_flat _ _ _
theorem lines_perm (l:List Bx) (gs:List R4) (gl:List Ln):((List.range gl.length).flatMap fun k=>lnI l gl k++agI l gs gl k).Perm (lnR l gl++agR l gs gl):=perm_flat _ _ _
end Go.Proofs.YtkpjcmiijlpcaaaGreat.W
set_option linter.unusedVariables false
set_option linter.unusedSimpArgs false
namespace Go.Proofs.YtkpjcmiijlpcaaaGreat.W
open Go Go.Proofs Go.Proofs.YtkpjcmiijlpcaaaGreat.Aw
theorem flat_cong {α β:Type} {f g:α→List β}:∀xs:List α,(∀x∈xs,f x=g x)→xs.flatMap f=xs.flatMap g
 | [],_=>rfl
 | x::xs,h=>by rw[List.flatMap_cons,List.flatMap_cons,h x (by simp),flat_cong xs fun y hy=>h y (by simp[hy])]
theorem flat_map' {α β γ:Type} (m:α→β) (g:β→List γ):∀xs:List α,(xs.map m).flatMap g=xs.flatMap fun x=>g (m x)
 | []=>rfl
 | x::xs=>by rw[List.map_cons,List.flatMap_cons,List.flatMap_cons,flat_map' m g xs]
theorem ahd_eq {l:List Bx} {xs:List Nd} (h:TreeL l xs) (hl:l.length≤8192) {k:Nat} (h0:0<k) (h1:k<l.length):fltL xs (ndAt xs (k:Int)).2.2.2.1 (k:Int)=(ahd l k).map fun i:Nat=>(i:Int):=by
 rw[show (ndAt xs (k:Int)).2.2.2.1=ctx6 l k from (h.ctx (by omega) (by omega)).symm,flt_eq h hl,filter_ahead l _ _ k (by omega)]
 rfl
theorem ahd_mem {l:List Bx} {k i:Nat} (h:i∈ahd l k):0<i∧i<k∧(l.getD i zBx).2.1=2:=by
 obtain⟨h1,h2⟩:=List.mem_filter.1 h
 have h1:=List.mem_range.1 h1
 unfold ahX at h2
 by_cases c1:(i:Int)>0
 · rw[decide_eq_true c1,cond_true] at h2
   cases c2:decide ((i:Int)<(k:Int)) with
   | false=>rw[c2,cond_false] at h2;cases h2
   | true=>
    rw[c2,cond_true,Int.toNat_natCast] at h2
    cases c3:((l.getD i zBx).2.1==2) with
    | false=>rw[c3,cond_false] at h2;cases h2
    | true=>exact⟨by omega,h1,beq_iff_eq.1 c3⟩
 · rw[decide_eq_false c1,cond_false] at h2;cases h2
theorem fl_part {l:List Bx} {xs:List Nd} (h:TreeL l xs) (hl:l.length≤8192) {gs:List R4} (hg:gs.any badR=false) (fs:List Ft) {k:Nat} (h0:0<k) (h1:k<l.length) (hk:(l.getD k zBx).2.1=2):flL xs gs (k:Int) fs=fs++partP l gs k:=by
 unfold flL
 rw[ahd_eq h hl h0 h1,side_eq h gs (by omega) (by omega) (by rw[Int.toNat_natCast];exact hk),fnd_app]
 have hst:∀(fs:List Ft) (i:Int),flStep xs gs (k:Int) fs i=fs++((bif meetR (mgL xs gs i) (mgL xs gs k) then [(2,(k:Int),i)] else [])++((bif decide ((mgL xs gs k).2.1<(mgL xs gs i).2.1) then [(3,(k:Int),i)] else [])++(bif (bif (ndAt xs k).1.2.2.2.1==3 then true else (ndAt xs k).1.2.2.2.1==(ndAt xs i).1.2.2.1)&&decide ((mgL xs gs k).2.1<(mgL xs gs i).2.2.2) then [(5,(k:Int),i)] else []))):=by
  intro fs i
  unfold flStep
  rw[fnd_app,fnd_app,fnd_app,List.append_assoc,List.append_assoc]
 rw[fold_app hst,flat_map',List.append_assoc]
 unfold partP
 have hp:parL xs (k:Int)=par6 l k:=h.par k (by omega) (by omega)
 have es:(bif sideX l gs (k:Int) then [((4:Int),(k:Int),parL xs (k:Int))] else [])=sdI l gs k:=by
  unfold sdI
  rw[decide_eq_true h0,cond_true,hk,hp]
  rfl
 rw[es]
 congr 2
 refine flat_cong _ fun i hi => ?_
 obtain⟨i0,i1,i2⟩:=ahd_mem hi
 have hsi:=(h.ok (j:=i) (by omega)).side.1 i2
 have smk:=mg6_sm h hg (j:=(k:Int)) (by omega) (by omega)
 have smi:=mg6_sm h hg (j:=(i:Int)) (by omega) (by omega)
 have kk:((l.getD k zBx).2.1 != 2)=false:=by rw[hk];rfl
 have k3:((l.getD k zBx).2.1==3)=false:=by rw[hk];rfl
 rw[mg_eq h gs (j:=(i:Int)) (by omega) (by omega),mg_eq h gs (j:=(k:Int)) (by omega) (by omega),h.bx (j:=(k:Int)) (by omega) (by omega),h.bx (j:=(i:Int)) (by omega) (by omega),Int.toNat_natCast,Int.toNat_natCast,clr_eq _ _ hsi,meet_sym6 smi smk]
 have p2:pairX l gs 2 k i=meet6 (mg6 l gs k) (mg6 l gs i):=by
  show (bif (l.getD k zBx).2.1 != 2 then false else meet6 (mg6 l gs k) (mg6 l gs i))=_
  rw[kk];rfl
 have p3:pairX l gs 3 k i=decide ((mg6 l gs k).2.1<(mg6 l gs i).2.1):=by
  show (bif (l.getD k zBx).2.1 != 2 then false else decide ((mg6 l gs k).2.1<(mg6 l gs i).2.1))=_
  rw[kk];rfl
 have p5:pairX l gs 5 k i=(clr6 (l.getD k zBx).2.2.2.1 (l.getD i zBx).2.2.1&&decide ((mg6 l gs k).2.1<(mg6 l gs i).2.2.2)):=by
  show (bif (l.getD k zBx).2.1 != 2 then false else (bif clr6 (l.getD k zBx).2.2.2.1 (l.getD i zBx).2.2.1 then decide ((mg6 l gs k).2.1<(mg6 l gs i).2.2.2) else false))=_
  rw[kk]
  cases clr6 (l.getD k zBx).2.2.2.1 (l.getD i zBx).2.2.1<;>rfl
 have p7:pairX l gs 7 k i=false:=by
  show (bif (l.getD k zBx).2.1==3 then meet6 (gs.getD k (0,0,0,0)) (mg6 l gs i) else false)=_
  rw[k3];rfl
 unfold eR
 rw[p2,p3,p5,p7,cond_false,List.append_nil]
end Go.Proofs.YtkpjcmiijlpcaaaGreat.W
