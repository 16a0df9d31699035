/- The document's answer for layer 20 (judge), whole. -/
import Derived.Test.YtkpjcmiijlpcaaaGreatEa
import Derived.Test.YtkpjcmiijlpcaaaGreatAwAF
import Derived.Test.YtkpjcmiijlpcaaaGreatAwAH
import Derived.Test.YtkpjcmiijlpcaaaGreatFd
import Derived.Test.YtkpjcmiijlpcaaaGreatFe
import Derived.Test.YtkpjcmiijlpcaaaGreatFh
import Derived.Test.YtkpjcmiijlpcaaaGreatFi
import Derived.Test.YtkpjcmiijlpcaaaGreatPc
import Derived.Test.YtkpjcmiijlpcaaaGreatAwAI
import Derived.Test.YtkpjcmiijlpcaaaGreatRa
import Derived.KernelRfl
set_option linter.unusedVariables false
set_option linter.unusedSimpArgs false
namespace Go.Proofs.YtkpjcmiijlpcaaaGreat.W
open Go Go.Proofs Go.Proofs.YtkpjcmiijlpcaaaGreat.Aw
noncomputable section
def consX6:Cons:=(29,con29)::(31,con31)::consX5
def twosX6:Cons2:=twosX5
def pansX6:Cons3:=pansX5
def itersX6:Cons4:=itersX5
abbrev eX6:Env:=envOf4 consX6 twosX6 pansX6 itersX6
theorem allconsX6:∀c∈consX6,ConOk Tryz.prog c:=all_cons ok29 (all_cons ok31 allconsX5)
theorem alltwosX6:∀c∈twosX6,ConOk2 Tryz.prog c:=alltwosX5
theorem allpansX6:∀c∈pansX6,ConOk3 Tryz.prog c:=allpansX5
theorem allitersX6:∀c∈itersX6,ConOk4 Tryz.prog c:=allitersX5
theorem envX6:EnvOk Tryz.prog eX6:=envOf4_ok _ _ _ _ allconsX6 alltwosX6 allpansX6 allitersX6
abbrev zLn:Ln:=(0,(0,0,0,0),0,0)
def prE (l:List Bx) (gs:List R4) (rule:Int) (k i:Nat):List Ft:=bif (bif ahX l i k (ctx6 l k) then pairX l gs rule k i else false) then [(rule,(k:Int),(i:Int))] else []
def prI (l:List Bx) (gs:List R4) (rule:Int) (k:Nat):List Ft:=(List.range k).flatMap (prE l gs rule k)
def prR (l:List Bx) (gs:List R4) (rule:Int):List Ft:=(List.range l.length).flatMap (prI l gs rule)
def sdI (l:List Bx) (gs:List R4) (k:Nat):List Ft:=bif decide (0<k) then (bif (bif (l.getD k zBx).2.1==2 then sideX l gs k else false) then [(4,(k:Int),par6 l k)] else []) else []
def sdR (l:List Bx) (gs:List R4):List Ft:=(List.range l.length).flatMap (sdI l gs)
def lnI (l:List Bx) (gl:List Ln) (k:Nat):List Ft:=bif !rightX l (gl.getD k zLn) then [(1,(k:Int),-1)] else []
def lnR (l:List Bx) (gl:List Ln):List Ft:=(List.range gl.length).flatMap (lnI l gl)
def agE (l:List Bx) (gs:List R4) (gl:List Ln) (k i:Nat):List Ft:=bif (bif ahX l i (gl.getD k zLn).2.2.1 (ctx6 l (gl.getD k zLn).1) then meet6 (mg6 l gs i) (gl.getD k zLn).2.1 else false) then [(6,(k:Int),(i:Int))] else []
def agI (l:List Bx) (gs:List R4) (gl:List Ln) (k:Nat):List Ft:=bif rightX l (gl.getD k zLn) then (List.range l.length).flatMap (agE l gs gl k) else []
def agR (l:List Bx) (gs:List R4) (gl:List Ln):List Ft:=(List.range gl.length).flatMap (agI l gs gl)
def refJ (l:List Bx) (gs:List R4) (gl:List Ln):List Ft:=if gs.length=l.length then lnR l gl++prR l gs 2++prR l gs 3++sdR l gs++prR l gs 5++agR l gs gl++prR l gs 7 else [(1,-1,-1)]
theorem range_flat {α:Type} (g:Nat→List α) (k:Nat):(List.range (k+1)).flatMap g=(List.range k).flatMap g++g k:=by
 rw[List.range_succ,List.flatMap_append];simp
theorem flat_le {α:Type} (g:Nat→List α) (m:Nat) (h:∀k,(g k).length≤m):∀k,((List.range k).flatMap g).length≤k*m
 | 0=>by simp
 | k+1=>by
  have:=flat_le g m h k
  have:=h k
  rw[range_flat,List.length_append,Nat.add_mul];omega
theorem bif_len {α:Type} (c:Bool) (x:α):(bif c then [x] else []).length≤1:=by cases c<;>simp
theorem prE_len (l:List Bx) (gs:List R4) (r:Int) (k i:Nat):(prE l gs r k i).length≤1:=bif_len _ _
theorem agE_len (l:List Bx) (gs:List R4) (gl:List Ln) (k i:Nat):(agE l gs gl k i).length≤1:=bif_len _ _
theorem lnI_len (l:List Bx) (gl:List Ln) (k:Nat):(lnI l gl k).length≤1:=bif_len _ _
theorem sdI_len (l:List Bx) (gs:List R4) (k:Nat):(sdI l gs k).length≤1:=by
 unfold sdI
 cases decide (0<k)
 · simp
 · exact bif_len _ _
theorem part_len {α:Type} (g:Nat→List α) (h:∀k,(g k).length≤1) (k:Nat):((List.range k).flatMap g).length≤k:=by
 have:=flat_le g 1 h k;omega
theorem prI_len (l:List Bx) (gs:List R4) (r:Int) (k:Nat):(prI l gs r k).length≤k:=part_len _ (prE_len l gs r k) k
theorem flat_sq {α:Type} (g:Nat→List α) (m:Nat) (h:∀k,k<m→(g k).length≤m):∀k,k≤m→((List.range k).flatMap g).length≤k*m
 | 0,_=>by simp
 | k+1,hk=>by
  have:=flat_sq g m h k (by omega)
  have:=h k (by omega)
  rw[range_flat,List.length_append,Nat.add_mul];omega
theorem prR_len (l:List Bx) (gs:List R4) (r:Int) (h:l.length≤4096) (k:Nat) (hk:k≤l.length):((List.range k).flatMap (prI l gs r)).length≤16777216:=by
 have h1:=flat_sq (prI l gs r) 4096 (fun k hk=>by have:=prI_len l gs r k;omega) k (by omega)
 omega
theorem agI_len (l:List Bx) (gs:List R4) (gl:List Ln) (k:Nat):(agI l gs gl k).length≤l.length:=by
 unfold agI
 cases rightX l (gl.getD k zLn)
 · simp
 · exact part_len _ (agE_len l gs gl k) _
theorem agR_len (l:List Bx) (gs:List R4) (gl:List Ln) (h:l.length≤4096) (k:Nat) (hk:k≤4096):((List.range k).flatMap (agI l gs gl)).length≤16777216:=by
 have h1:=flat_sq (agI l gs gl) 4096 (fun k _=>by have:=agI_len l gs gl k;omega) k (by omega)
 omega
theorem right_at {l:List Bx} {n:Ln} (h:rightX l n=true):0≤n.1∧n.1<(l.length:Int):=by
 unfold rightX at h
 cases h1:decide (n.1<0) with
 | true=>rw[h1] at h;cases h
 | false=>
  cases h2:decide (n.1≥(l.length:Int)) with
  | true=>rw[h1,h2] at h;cases h
  | false=>
   have h1:=of_decide_eq_false h1
   have h2:=of_decide_eq_false h2
   omega
def con8:List AV→Option Tells
 | [.list 80 (.pair (.int .i64) (.pair (.int .i64) (.pair (.int .i64) (.pair (.int .i64) (.pair (.int .i64) (.pair (.int .i64) (.pair (.pair (.int .i64) (.pair (.int .i64) (.pair (.int .i64) (.int .i64)))) (.pair (.int .i64) (.pair (.int .i64) (.pair (.int .i64) (.int .i64))))))))))) l,.agg (.cons (.list 46 (.pair (.int .i64) (.pair (.int .i64) (.pair (.int .i64) (.int .i64)))) gs) (.cons (.list 48 (.pair (.int .i64) (.pair (.pair (.int .i64) (.pair (.int .i64) (.pair (.int .i64) (.int .i64)))) (.pair (.int .i64) (.int .i64)))) gl) .nl))]=>some ⟨[l.length≤4096,gl.length≤4096,0<l.length,∀k:Nat,0<k→k<l.length→0≤par6 l k],.row 0,[.row 41 TF (blk (refJ l gs gl))]⟩
 | _=>none
def f8_live1:List Nat:=[6,3,0,3,6,5,6,6,3,3,0,0,0,0,0,3,5,0,0,0,3,5,0,0,0,0,3,5,5,4]
def f8_head1 (l:List TB.den) (gs:List T4.den) (gl:List TL.den) (s6:Int) (o2:List (Int×Int×Int)):St:={slots:=[AV.list 80 TB l,AV.undef,AV.undef,AV.ptr 0 0,AV.row 1,AV.row 2,AV.int .i64 s6]++List.replicate 144 AV.undef,obs:=[Ob.cells 26 [AV.list 46 T4 gs,AV.list 48 (KI.pair (T4.pair (KI.pair KI))) gl],Ob.row 41 (KI.pair (KI.pair KI)) [],Ob.row 41 (KI.pair (KI.pair KI)) o2]}
def f8_q1 (R:AV→List Ob→Prop):Ex→St→Prop:=blockA 0 (seqQ tab eX6 (subC [1,1,1,1] (bodyOf Tryz.f8)) [4] (endA tab Tryz.f8 R))
def f8_loop1 (R:AV→List Ob→Prop) (l:List TB.den) (gs:List T4.den) (gl:List TL.den) (s6:Int) (o2:List (Int×Int×Int)):Prop:=loopT f8_live1 (codeA tab eX6 (subC [1,1,1,0,1,0,0] (bodyOf Tryz.f8)) f8_live1) (f8_head1 l gs gl s6 o2) (f8_q1 R)
def f8_live2:List Nat:=[7,7,3,3,0,0,0,0,0,3,5,0,7,0,0,3,5,0,0,0,0,3,7,5,7,7,5,4]
def f8_head2 (l:List TB.den) (gs:List T4.den) (gl:List TL.den) (o2:List (Int×Int×Int)):St:={slots:=[AV.list 80 TB l,AV.undef,AV.undef,AV.ptr 0 0,AV.row 1,AV.row 2,AV.undef,AV.int .i64 2]++List.replicate 143 AV.undef,obs:=[Ob.cells 26 [AV.list 46 T4 gs,AV.list 48 (KI.pair (T4.pair (KI.pair KI))) gl],Ob.row 41 (KI.pair (KI.pair KI)) [],Ob.row 41 (KI.pair (KI.pair KI)) o2]}
def f8_q2 (R:AV→List Ob→Prop):Ex→St→Prop:=blockA 2 (seqQ tab eX6 (subC [1,1,1,1,1] (bodyOf Tryz.f8)) [4] (endA tab Tryz.f8 R))
def f8_loop2 (R:AV→List Ob→Prop) (l:List TB.den) (gs:List T4.den) (gl:List TL.den) (o2:List (Int×Int×Int)):Prop:=loopT f8_live2 (codeA tab eX6 (subC [1,1,1,1,0,1,0,0] (bodyOf Tryz.f8)) f8_live2) (f8_head2 l gs gl o2) (f8_q2 R)
def f8_live3:List Nat:=[11,0,7,0,11,0,3,11,5,11,0,11,11,0,11,0,11,0,3,7,11,5,7,11,11,7,7,7,3,3,0,0,0,0,0,3,5,0,7,0,0,3,5,0,0,0,0,3,7,5,7,7,5,4]
def f8_head3 (l:List TB.den) (gs:List T4.den) (gl:List TL.den) (s11':Int) (o2':List (Int×Int×Int)):St:={slots:=[AV.list 80 TB l,AV.undef,AV.undef,AV.ptr 0 0,AV.row 1,AV.row 2,AV.undef,AV.int .i64 2,AV.undef,AV.undef,AV.undef,AV.int .i64 s11']++List.replicate 139 AV.undef,obs:=[Ob.cells 26 [AV.list 46 T4 gs,AV.list 48 (KI.pair (T4.pair (KI.pair KI))) gl],Ob.row 41 (KI.pair (KI.pair KI)) [],Ob.row 41 (KI.pair (KI.pair KI)) o2']}
def f8_q3 (R:AV→List Ob→Prop):Ex→St→Prop:=blockA 8 (blockA 3 (seqQ tab eX6 (subC [1,1,1,1,0,1,0,0,1,1] (bodyOf Tryz.f8)) [7,7,3,3,0,0,0,0,0,3,5,0,7,0,0,3,5,0,0,0,0,3,7,5,7,7,5,4] (thenA (fun s=>loopU f8_live2 (codeA tab eX6 (subC [1,1,1,1,0,1,0,0] (bodyOf Tryz.f8)) f8_live2) 39 (St.tidy f8_live2 s) (blockA 2 (seqQ tab eX6 (subC [1,1,1,1,1] (bodyOf Tryz.f8)) [4] (endA tab Tryz.f8 R)))) (blockA 2 (seqQ tab eX6 (subC [1,1,1,1,1] (bodyOf Tryz.f8)) [4] (endA tab Tryz.f8 R))))))
def f8_loop3 (R:AV→List Ob→Prop) (l:List TB.den) (gs:List T4.den) (gl:List TL.den) (s11':Int) (o2':List (Int×Int×Int)):Prop:=loopT f8_live3 (codeA tab eX6 (subC [1,1,1,1,0,1,0,0,1,0,0,1,1,0,0] (bodyOf Tryz.f8)) f8_live3) (f8_head3 l gs gl s11' o2') (f8_q3 R)
def f8_live4:List Nat:=[12,11,0,12,11,0,11,0,3,7,11,12,5,7,11,12,12,11,11,0,7,0,11,0,3,11,5,11,0,11,11,0,11,0,11,0,3,7,11,5,7,11,11,7,7,7,3,3,0,0,0,0,0,3,5,0,7,0,0,3,5,0,0,0,0,3,7,5,7,7,5,4]
def f8_head4 (l:List TB.den) (gs:List T4.den) (gl:List TL.den) (s11':Int) (s12'':Int) (o2'':List (Int×Int×Int)):St:={slots:=[AV.list 80 TB l,AV.undef,AV.undef,AV.ptr 0 0,AV.row 1,AV.row 2,AV.undef,AV.int .i64 2,AV.undef,AV.undef,AV.undef,AV.int .i64 s11',AV.int .i64 s12'']++List.replicate 138 AV.undef,obs:=[Ob.cells 26 [AV.list 46 T4 gs,AV.list 48 (KI.pair (T4.pair (KI.pair KI))) gl],Ob.row 41 (KI.pair (KI.pair KI)) [],Ob.row 41 (KI.pair (KI.pair KI)) o2'']}
def f8_q4 (R:AV→List Ob→Prop) (J1:St→Prop):Ex→St→Prop:=blockA 10 (blockA 9 (seqQ tab eX6 (subC [1,1,1,1,0,1,0,0,1,0,0,1,1,0,0,1,1] (bodyOf Tryz.f8)) [11,0,7,0,11,0,3,11,5,11,0,11,11,0,11,0,11,0,3,7,11,5,7,11,11,7,7,7,3,3,0,0,0,0,0,3,5,0,7,0,0,3,5,0,0,0,0,3,7,5,7,7,5,4] (thenA (fun s=>J1 (St.tidy f8_live3 s)) (blockA 8 (blockA 3 (seqQ tab eX6 (subC [1,1,1,1,0,1,0,0,1,1] (bodyOf Tryz.f8)) [7,7,3,3,0,0,0,0,0,3,5,0,7,0,0,3,5,0,0,0,0,3,7,5,7,7,5,4] (thenA (fun s=>loopU f8_live2 (codeA tab eX6 (subC [1,1,1,1,0,1,0,0] (bodyOf Tryz.f8)) f8_live2) 39 (St.tidy f8_live2 s) (blockA 2 (seqQ tab eX6 (subC [1,1,1,1,1] (bodyOf Tryz.f8)) [4] (endA tab Tryz.f8 R)))) (blockA 2 (seqQ tab eX6 (subC [1,1,1,1,1] (bodyOf Tryz.f8)) [4] (endA tab Tryz.f8 R))))))))))
def f8_loop4 (R:AV→List Ob→Prop) (l:List TB.den) (gs:List T4.den) (gl:List TL.den) (s11':Int) (J1:St→Prop) (s12'':Int) (o2'':List (Int×Int×Int)):Prop:=loopT f8_live4 (codeA tab eX6 (subC [1,1,1,1,0,1,0,0,1,0,0,1,1,0,0,1,0,0,1,1,0,0] (bodyOf Tryz.f8)) f8_live4) (f8_head4 l gs gl s11' s12'' o2'') (f8_q4 R J1)
def f8_rhs4 (R:AV→List Ob→Prop) (l:List TB.den) (gs:List T4.den) (gl:List TL.den) (s11':Int) (J1:St→Prop) (J2:St→Prop) (s12'':Int) (o2'':List (Int×Int×Int)):Prop:=bif decide (s12''<s11') then 0≤s11'∧s11'<(↑l.length:Int)∧l.length≤4096∧0≤s12''∧s12''<(↑l.length:Int)∧l.length≤4096∧bif blk (ahX l s12'' s11' (blk (ctx6 l s11'))) then 0≤s12''∧s12''<(↑l.length:Int)∧0≤s11'∧s11'<(↑l.length:Int)∧l.length≤4096∧gs.length=l.length∧bif blk (pairX l gs 2 s11' s12'') then (o2''.length+1)*24≤140737488355328∧J2 (f8_head4 l gs gl s11' (IntKind.i64.wrap (s12''+1)) (o2''++[(2,s11',s12'')])) else J2 (f8_head4 l gs gl s11' (IntKind.i64.wrap (s12''+1)) o2'') else J2 (f8_head4 l gs gl s11' (IntKind.i64.wrap (s12''+1)) o2'') else J1 (f8_head3 l gs gl (IntKind.i64.wrap (s11'+1)) o2'')
theorem f8_eq4 (R:AV→List Ob→Prop) (l:List TB.den) (gs:List T4.den) (gl:List TL.den) (s11':Int) (J1:St→Prop) (J2:St→Prop) (s12'':Int) (o2'':List (Int×Int×Int)):codeA tab eX6 (subC [1,1,1,1,0,1,0,0,1,0,0,1,1,0,0,1,0,0,1,1,0,0] (bodyOf Tryz.f8)) f8_live4 (f8_head4 l gs gl s11' s12'' o2'') (thenA (fun s=>J2 (St.tidy f8_live4 s)) (f8_q4 R J1))=f8_rhs4 R l gs gl s11' J1 J2 s12'' o2'':=by kernel_rfl
set_option maxHeartbeats 2000000 in
theorem f8_rule4 (R:AV→List Ob→Prop) (l:List TB.den) (gs:List T4.den) (gl:List TL.den) (s11':Int) (J1:St→Prop) (I:Nat→(Int)→(List (Int×Int×Int))→Prop) (n:Nat) (s12'':Int) (o2'':List (Int×Int×Int)) (h0:I n s12'' o2'') (h:∀n,∀(s12'':Int) (o2'':List (Int×Int×Int)),I n s12'' o2''→f8_rhs4 R l gs gl s11' J1 (fun t=>∃m,m<n∧∃(s12'':Int) (o2'':List (Int×Int×Int)),t=f8_head4 l gs gl s11' s12'' o2''∧I m s12'' o2'') s12'' o2''):f8_loop4 R l gs gl s11' J1 s12'' o2'':=
 loop_intro (fun n t=>∃(s12'':Int) (o2'':List (Int×Int×Int)),t=f8_head4 l gs gl s11' s12'' o2''∧I n s12'' o2'') n ⟨s12'',o2'',rfl,h0⟩ (fun n t ht=>by obtain⟨s12'',o2'',rfl,hI⟩:=ht;exact Eq.mpr (f8_eq4 R l gs gl s11' J1 (fun t=>∃m,m<n∧∃(s12'':Int) (o2'':List (Int×Int×Int)),t=f8_head4 l gs gl s11' s12'' o2''∧I m s12'' o2'') s12'' o2'') (h n s12'' o2'' hI))
def f8_live5:List Nat:=[11,0,7,0,11,0,3,11,5,11,0,11,11,0,11,0,11,0,3,7,11,5,7,11,11,7,7,7,3,3,0,0,0,0,0,3,5,0,7,0,0,3,5,0,0,0,0,3,7,5,7,7,5,4]
def f8_head5 (l:List TB.den) (gs:List T4.den) (gl:List TL.den) (s11'':Int) (o2'':List (Int×Int×Int)):St:={slots:=[AV.list 80 TB l,AV.undef,AV.undef,AV.ptr 0 0,AV.row 1,AV.row 2,AV.undef,AV.int .i64 3,AV.undef,AV.undef,AV.undef,AV.int .i64 s11'']++List.replicate 139 AV.undef,obs:=[Ob.cells 26 [AV.list 46 T4 gs,AV.list 48 (KI.pair (T4.pair (KI.pair KI))) gl],Ob.row 41 (KI.pair (KI.pair KI)) [],Ob.row 41 (KI.pair (KI.pair KI)) o2'']}
def f8_q5 (R:AV→List Ob→Prop):Ex→St→Prop:=blockA 8 (blockA 3 (seqQ tab eX6 (subC [1,1,1,1,0,1,0,0,1,1] (bodyOf Tryz.f8)) [7,7,3,3,0,0,0,0,0,3,5,0,7,0,0,3,5,0,0,0,0,3,7,5,7,7,5,4] (thenA (fun s=>loopU f8_live2 (codeA tab eX6 (subC [1,1,1,1,0,1,0,0] (bodyOf Tryz.f8)) f8_live2) 38 (St.tidy f8_live2 s) (blockA 2 (seqQ tab eX6 (subC [1,1,1,1,1] (bodyOf Tryz.f8)) [4] (endA tab Tryz.f8 R)))) (blockA 2 (seqQ tab eX6 (subC [1,1,1,1,1] (bodyOf Tryz.f8)) [4] (endA tab Tryz.f8 R))))))
def f8_loop5 (R:AV→List Ob→Prop) (l:List TB.den) (gs:List T4.den) (gl:List TL.den) (s11'':Int) (o2'':List (Int×Int×Int)):Prop:=loopT f8_live5 (codeA tab eX6 (subC [1,1,1,1,0,1,0,0,1,0,0,1,1,0,0] (bodyOf Tryz.f8)) f8_live5) (f8_head5 l gs gl s11'' o2'') (f8_q5 R)
def f8_live6:List Nat:=[12,11,0,12,11,0,11,0,3,7,11,12,5,7,11,12,12,11,11,0,7,0,11,0,3,11,5,11,0,11,11,0,11,0,11,0,3,7,11,5,7,11,11,7,7,7,3,3,0,0,0,0,0,3,5,0,7,0,0,3,5,0,0,0,0,3,7,5,7,7,5,4]
def f8_head6 (l:List TB.den) (gs:List T4.den) (gl:List TL.den) (s11'':Int) (s12''':Int) (o2''':List (Int×Int×Int)):St:={slots:=[AV.list 80 TB l,AV.undef,AV.undef,AV.ptr 0 0,AV.row 1,AV.row 2,AV.undef,AV.int .i64 3,AV.undef,AV.undef,AV.undef,AV.int .i64 s11'',AV.int .i64 s12''']++List.replicate 138 AV.undef,obs:=[Ob.cells 26 [AV.list 46 T4 gs,AV.list 48 (KI.pair (T4.pair (KI.pair KI))) gl],Ob.row 41 (KI.pair (KI.pair KI)) [],Ob.row 41 (KI.pair (KI.pair KI)) o2''']}
def f8_q6 (R:AV→List Ob→Prop) (J2:St→Prop):Ex→St→Prop:=blockA 10 (blockA 9 (seqQ tab eX6 (subC [1,1,1,1,0,1,0,0,1,0,0,1,1,0,0,1,1] (bodyOf Tryz.f8)) [11,0,7,0,11,0,3,11,5,11,0,11,11,0,11,0,11,0,3,7,11,5,7,11,11,7,7,7,3,3,0,0,0,0,0,3,5,0,7,0,0,3,5,0,0,0,0,3,7,5,7,7,5,4] (thenA (fun s=>J2 (St.tidy f8_live5 s)) (blockA 8 (blockA 3 (seqQ tab eX6 (subC [1,1,1,1,0,1,0,0,1,1] (bodyOf Tryz.f8)) [7,7,3,3,0,0,0,0,0,3,5,0,7,0,0,3,5,0,0,0,0,3,7,5,7,7,5,4] (thenA (fun s=>loopU f8_live2 (codeA tab eX6 (subC [1,1,1,1,0,1,0,0] (bodyOf Tryz.f8)) f8_live2) 38 (St.tidy f8_live2 s) (blockA 2 (seqQ tab eX6 (subC [1,1,1,1,1] (bodyOf Tryz.f8)) [4] (endA tab Tryz.f8 R)))) (blockA 2 (seqQ tab eX6 (subC [1,1,1,1,1] (bodyOf Tryz.f8)) [4] (endA tab Tryz.f8 R))))))))))
def f8_loop6 (R:AV→List Ob→Prop) (l:List TB.den) (gs:List T4.den) (gl:List TL.den) (s11'':Int) (J2:St→Prop) (s12''':Int) (o2''':List (Int×Int×Int)):Prop:=loopT f8_live6 (codeA tab eX6 (subC [1,1,1,1,0,1,0,0,1,0,0,1,1,0,0,1,0,0,1,1,0,0] (bodyOf Tryz.f8)) f8_live6) (f8_head6 l gs gl s11'' s12''' o2''') (f8_q6 R J2)
def f8_rhs6 (R:AV→List Ob→Prop) (l:List TB.den) (gs:List T4.den) (gl:List TL.den) (s11'':Int) (J2:St→Prop) (J3:St→Prop) (s12''':Int) (o2''':List (Int×Int×Int)):Prop:=bif decide (s12'''<s11'') then 0≤s11''∧s11''<(↑l.length:Int)∧l.length≤4096∧0≤s12'''∧s12'''<(↑l.length:Int)∧l.length≤4096∧bif blk (ahX l s12''' s11'' (blk (ctx6 l s11''))) then 0≤s12'''∧s12'''<(↑l.length:Int)∧0≤s11''∧s11''<(↑l.length:Int)∧l.length≤4096∧gs.length=l.length∧bif blk (pairX l gs 3 s11'' s12''') then (o2'''.length+1)*24≤140737488355328∧J3 (f8_head6 l gs gl s11'' (IntKind.i64.wrap (s12'''+1)) (o2'''++[(3,s11'',s12''')])) else J3 (f8_head6 l gs gl s11'' (IntKind.i64.wrap (s12'''+1)) o2''') else J3 (f8_head6 l gs gl s11'' (IntKind.i64.wrap (s12'''+1)) o2''') else J2 (f8_head5 l gs gl (IntKind.i64.wrap (s11''+1)) o2''')
theorem f8_eq6 (R:AV→List Ob→Prop) (l:List TB.den) (gs:List T4.den) (gl:List TL.den) (s11'':Int) (J2:St→Prop) (J3:St→Prop) (s12''':Int) (o2''':List (Int×Int×Int)):codeA tab eX6 (subC [1,1,1,1,0,1,0,0,1,0,0,1,1,0,0,1,0,0,1,1,0,0] (bodyOf Tryz.f8)) f8_live6 (f8_head6 l gs gl s11'' s12''' o2''') (thenA (fun s=>J3 (St.tidy f8_live6 s)) (f8_q6 R J2))=f8_rhs6 R l gs gl s11'' J2 J3 s12''' o2''':=by kernel_rfl
set_option maxHeartbeats 2000000 in
theorem f8_rule6 (R:AV→List Ob→Prop) (l:List TB.den) (gs:List T4.den) (gl:List TL.den) (s11'':Int) (J2:St→Prop) (I:Nat→(Int)→(List (Int×Int×Int))→Prop) (n:Nat) (s12''':Int) (o2''':List (Int×Int×Int)) (h0:I n s12''' o2''') (h:∀n,∀(s12''':Int) (o2''':List (Int×Int×Int)),I n s12''' o2'''→f8_rhs6 R l gs gl s11'' J2 (fun t=>∃m,m<n∧∃(s12''':Int) (o2''':List (Int×Int×Int)),t=f8_head6 l gs gl s11'' s12''' o2'''∧I m s12''' o2''') s12''' o2'''):f8_loop6 R l gs gl s11'' J2 s12''' o2''':=
 loop_intro (fun n t=>∃(s12''':Int) (o2''':List (Int×Int×Int)),t=f8_head6 l gs gl s11'' s12''' o2'''∧I n s12''' o2''') n ⟨s12''',o2''',rfl,h0⟩ (fun n t ht=>by obtain⟨s12''',o2''',rfl,hI⟩:=ht;exact Eq.mpr (f8_eq6 R l gs gl s11'' J2 (fun t=>∃m,m<n∧∃(s12''':Int) (o2''':List (Int×Int×Int)),t=f8_head6 l gs gl s11'' s12''' o2'''∧I m s12''' o2''') s12''' o2''') (h n s12''' o2''' hI))
def f8_live7:List Nat:=[11,0,7,0,11,0,3,11,5,11,0,11,11,0,11,0,11,0,3,7,11,5,7,11,11,7,7,7,3,3,0,0,0,0,0,3,5,0,7,0,0,3,5,0,0,0,0,3,7,5,7,7,5,4]
def f8_head7 (l:List TB.den) (gs:List T4.den) (gl:List TL.den) (s11''':Int) (o2''':List (Int×Int×Int)):St:={slots:=[AV.list 80 TB l,AV.undef,AV.undef,AV.ptr 0 0,AV.row 1,AV.row 2,AV.undef,AV.int .i64 4,AV.undef,AV.undef,AV.undef,AV.int .i64 s11''']++List.replicate 139 AV.undef,obs:=[Ob.cells 26 [AV.list 46 T4 gs,AV.list 48 (KI.pair (T4.pair (KI.pair KI))) gl],Ob.row 41 (KI.pair (KI.pair KI)) [],Ob.row 41 (KI.pair (KI.pair KI)) o2''']}
def f8_q7 (R:AV→List Ob→Prop):Ex→St→Prop:=blockA 8 (blockA 3 (seqQ tab eX6 (subC [1,1,1,1,0,1,0,0,1,1] (bodyOf Tryz.f8)) [7,7,3,3,0,0,0,0,0,3,5,0,7,0,0,3,5,0,0,0,0,3,7,5,7,7,5,4] (thenA (fun s=>loopU f8_live2 (codeA tab eX6 (subC [1,1,1,1,0,1,0,0] (bodyOf Tryz.f8)) f8_live2) 37 (St.tidy f8_live2 s) (blockA 2 (seqQ tab eX6 (subC [1,1,1,1,1] (bodyOf Tryz.f8)) [4] (endA tab Tryz.f8 R)))) (blockA 2 (seqQ tab eX6 (subC [1,1,1,1,1] (bodyOf Tryz.f8)) [4] (endA tab Tryz.f8 R))))))
def f8_loop7 (R:AV→List Ob→Prop) (l:List TB.den) (gs:List T4.den) (gl:List TL.den) (s11''':Int) (o2''':List (Int×Int×Int)):Prop:=loopT f8_live7 (codeA tab eX6 (subC [1,1,1,1,0,1,0,0,1,0,0,1,1,0,0] (bodyOf Tryz.f8)) f8_live7) (f8_head7 l gs gl s11''' o2''') (f8_q7 R)
def f8_live8:List Nat:=[11,0,7,0,11,0,3,11,5,11,0,11,11,0,11,0,11,0,3,7,11,5,7,11,11,7,7,7,3,3,0,0,0,0,0,3,5,0,7,0,0,3,5,0,0,0,0,3,7,5,7,7,5,4]
def f8_head8 (l:List TB.den) (gs:List T4.den) (gl:List TL.den) (s11'''':Int) (o2'''':List (Int×Int×Int)):St:={slots:=[AV.list 80 TB l,AV.undef,AV.undef,AV.ptr 0 0,AV.row 1,AV.row 2,AV.undef,AV.int .i64 5,AV.undef,AV.undef,AV.undef,AV.int .i64 s11'''']++List.replicate 139 AV.undef,obs:=[Ob.cells 26 [AV.list 46 T4 gs,AV.list 48 (KI.pair (T4.pair (KI.pair KI))) gl],Ob.row 41 (KI.pair (KI.pair KI)) [],Ob.row 41 (KI.pair (KI.pair KI)) o2'''']}
def f8_q8 (R:AV→List Ob→Prop):Ex→St→Prop:=blockA 8 (blockA 3 (seqQ tab eX6 (subC [1,1,1,1,0,1,0,0,1,1] (bodyOf Tryz.f8)) [7,7,3,3,0,0,0,0,0,3,5,0,7,0,0,3,5,0,0,0,0,3,7,5,7,7,5,4] (thenA (fun s=>loopU f8_live2 (codeA tab eX6 (subC [1,1,1,1,0,1,0,0] (bodyOf Tryz.f8)) f8_live2) 36 (St.tidy f8_live2 s) (blockA 2 (seqQ tab eX6 (subC [1,1,1,1,1] (bodyOf Tryz.f8)) [4] (endA tab Tryz.f8 R)))) (blockA 2 (seqQ tab eX6 (subC [1,1,1,1,1] (bodyOf Tryz.f8)) [4] (endA tab Tryz.f8 R))))))
def f8_loop8 (R:AV→List Ob→Prop) (l:List TB.den) (gs:List T4.den) (gl:List TL.den) (s11'''':Int) (o2'''':List (Int×Int×Int)):Prop:=loopT f8_live8 (codeA tab eX6 (subC [1,1,1,1,0,1,0,0,1,0,0,1,1,0,0] (bodyOf Tryz.f8)) f8_live8) (f8_head8 l gs gl s11'''' o2'''') (f8_q8 R)
def f8_live9:List Nat:=[12,11,0,12,11,0,11,0,3,7,11,12,5,7,11,12,12,11,11,0,7,0,11,0,3,11,5,11,0,11,11,0,11,0,11,0,3,7,11,5,7,11,11,7,7,7,3,3,0,0,0,0,0,3,5,0,7,0,0,3,5,0,0,0,0,3,7,5,7,7,5,4]
def f8_head9 (l:List TB.den) (gs:List T4.den) (gl:List TL.den) (s11'''':Int) (s12''''':Int) (o2''''':List (Int×Int×Int)):St:={slots:=[AV.list 80 TB l,AV.undef,AV.undef,AV.ptr 0 0,AV.row 1,AV.row 2,AV.undef,AV.int .i64 5,AV.undef,AV.undef,AV.undef,AV.int .i64 s11'''',AV.int .i64 s12''''']++List.replicate 138 AV.undef,obs:=[Ob.cells 26 [AV.list 46 T4 gs,AV.list 48 (KI.pair (T4.pair (KI.pair KI))) gl],Ob.row 41 (KI.pair (KI.pair KI)) [],Ob.row 41 (KI.pair (KI.pair KI)) o2''''']}
def f8_q9 (R:AV→List Ob→Prop) (J4:St→Prop):Ex→St→Prop:=blockA 10 (blockA 9 (seqQ tab eX6 (subC [1,1,1,1,0,1,0,0,1,0,0,1,1,0,0,1,1] (bodyOf Tryz.f8)) [11,0,7,0,11,0,3,11,5,11,0,11,11,0,11,0,11,0,3,7,11,5,7,11,11,7,7,7,3,3,0,0,0,0,0,3,5,0,7,0,0,3,5,0,0,0,0,3,7,5,7,7,5,4] (thenA (fun s=>J4 (St.tidy f8_live8 s)) (blockA 8 (blockA 3 (seqQ tab eX6 (subC [1,1,1,1,0,1,0,0,1,1] (bodyOf Tryz.f8)) [7,7,3,3,0,0,0,0,0,3,5,0,7,0,0,3,5,0,0,0,0,3,7,5,7,7,5,4] (thenA (fun s=>loopU f8_live2 (codeA tab eX6 (subC [1,1,1,1,0,1,0,0] (bodyOf Tryz.f8)) f8_live2) 36 (St.tidy f8_live2 s) (blockA 2 (seqQ tab eX6 (subC [1,1,1,1,1] (bodyOf Tryz.f8)) [4] (endA tab Tryz.f8 R)))) (blockA 2 (seqQ tab eX6 (subC [1,1,1,1,1] (bodyOf Tryz.f8)) [4] (endA tab Tryz.f8 R))))))))))
def f8_loop9 (R:AV→List Ob→Prop) (l:List TB.den) (gs:List T4.den) (gl:List TL.den) (s11'''':Int) (J4:St→Prop) (s12''''':Int) (o2''''':List (Int×Int×Int)):Prop:=loopT f8_live9 (codeA tab eX6 (subC [1,1,1,1,0,1,0,0,1,0,0,1,1,0,0,1,0,0,1,1,0,0] (bodyOf Tryz.f8)) f8_live9) (f8_head9 l gs gl s11'''' s12''''' o2''''') (f8_q9 R J4)
def f8_rhs9 (R:AV→List Ob→Prop) (l:List TB.den) (gs:List T4.den) (gl:List TL.den) (s11'''':Int) (J4:St→Prop) (J5:St→Prop) (s12''''':Int) (o2''''':List (Int×Int×Int)):Prop:=bif decide (s12'''''<s11'''') then 0≤s11''''∧s11''''<(↑l.length:Int)∧l.length≤4096∧0≤s12'''''∧s12'''''<(↑l.length:Int)∧l.length≤4096∧bif blk (ahX l s12''''' s11'''' (blk (ctx6 l s11''''))) then 0≤s12'''''∧s12'''''<(↑l.length:Int)∧0≤s11''''∧s11''''<(↑l.length:Int)∧l.length≤4096∧gs.length=l.length∧bif blk (pairX l gs 5 s11'''' s12''''') then (o2'''''.length+1)*24≤140737488355328∧J5 (f8_head9 l gs gl s11'''' (IntKind.i64.wrap (s12'''''+1)) (o2'''''++[(5,s11'''',s12''''')])) else J5 (f8_head9 l gs gl s11'''' (IntKind.i64.wrap (s12'''''+1)) o2''''') else J5 (f8_head9 l gs gl s11'''' (IntKind.i64.wrap (s12'''''+1)) o2''''') else J4 (f8_head8 l gs gl (IntKind.i64.wrap (s11''''+1)) o2''''')
theorem f8_eq9 (R:AV→List Ob→Prop) (l:List TB.den) (gs:List T4.den) (gl:List TL.den) (s11'''':Int) (J4:St→Prop) (J5:St→Prop) (s12''''':Int) (o2''''':List (Int×Int×Int)):codeA tab eX6 (subC [1,1,1,1,0,1,0,0,1,0,0,1,1,0,0,1,0,0,1,1,0,0] (bodyOf Tryz.f8)) f8_live9 (f8_head9 l gs gl s11'''' s12''''' o2''''') (thenA (fun s=>J5 (St.tidy f8_live9 s)) (f8_q9 R J4))=f8_rhs9 R l gs gl s11'''' J4 J5 s12''''' o2''''':=by kernel_rfl
set_option maxHeartbeats 2000000 in
theorem f8_rule9 (R:AV→List Ob→Prop) (l:List TB.den) (gs:List T4.den) (gl:List TL.den) (s11'''':Int) (J4:St→Prop) (I:Nat→(Int)→(List (Int×Int×Int))→Prop) (n:Nat) (s12''''':Int) (o2''''':List (Int×Int×Int)) (h0:I n s12''''' o2''''') (h:∀n,∀(s12''''':Int) (o2''''':List (Int×Int×Int)),I n s12''''' o2'''''→f8_rhs9 R l gs gl s11'''' J4 (fun t=>∃m,m<n∧∃(s12''''':Int) (o2''''':List (Int×Int×Int)),t=f8_head9 l gs gl s11'''' s12''''' o2'''''∧I m s12''''' o2''''') s12''''' o2'''''):f8_loop9 R l gs gl s11'''' J4 s12''''' o2''''':=
 loop_intro (fun n t=>∃(s12''''':Int) (o2''''':List (Int×Int×Int)),t=f8_head9 l gs gl s11'''' s12''''' o2'''''∧I n s12''''' o2''''') n ⟨s12''''',o2''''',rfl,h0⟩ (fun n t ht=>by obtain⟨s12''''',o2''''',rfl,hI⟩:=ht;exact Eq.mpr (f8_eq9 R l gs gl s11'''' J4 (fun t=>∃m,m<n∧∃(s12''''':Int) (o2''''':List (Int×Int×Int)),t=f8_head9 l gs gl s11'''' s12''''' o2'''''∧I m s12''''' o2''''') s12''''' o2''''') (h n s12''''' o2''''' hI))
def f8_live10:List Nat:=[8,3,3,8,0,0,0,0,0,3,5,8,8,0,7,0,0,3,5,0,0,0,0,3,7,5,7,7,7,7,3,3,0,0,0,0,0,3,5,0,7,0,0,3,5,0,0,0,0,3,7,5,7,7,5,4]
def f8_head10 (l:List TB.den) (gs:List T4.den) (gl:List TL.den) (s8''''':Int) (o2''''':List (Int×Int×Int)):St:={slots:=[AV.list 80 TB l,AV.undef,AV.undef,AV.ptr 0 0,AV.row 1,AV.row 2,AV.undef,AV.int .i64 6,AV.int .i64 s8''''']++List.replicate 142 AV.undef,obs:=[Ob.cells 26 [AV.list 46 T4 gs,AV.list 48 (KI.pair (T4.pair (KI.pair KI))) gl],Ob.row 41 (KI.pair (KI.pair KI)) [],Ob.row 41 (KI.pair (KI.pair KI)) o2''''']}
def f8_q10 (R:AV→List Ob→Prop):Ex→St→Prop:=blockA 4 (seqQ tab eX6 (subC [1,1,1,1,0,1,0,0,1,0,0,0,1,0,1] (bodyOf Tryz.f8)) [0,7,0,0,3,5,0,0,0,0,3,7,5,7,7,7,7,3,3,0,0,0,0,0,3,5,0,7,0,0,3,5,0,0,0,0,3,7,5,7,7,5,4] (seqQ tab eX6 (subC [1,1,1,1,0,1,0,0,1,0,0,1] (bodyOf Tryz.f8)) [7,7,7,3,3,0,0,0,0,0,3,5,0,7,0,0,3,5,0,0,0,0,3,7,5,7,7,5,4] (blockA 3 (seqQ tab eX6 (subC [1,1,1,1,0,1,0,0,1,1] (bodyOf Tryz.f8)) [7,7,3,3,0,0,0,0,0,3,5,0,7,0,0,3,5,0,0,0,0,3,7,5,7,7,5,4] (thenA (fun s=>loopU f8_live2 (codeA tab eX6 (subC [1,1,1,1,0,1,0,0] (bodyOf Tryz.f8)) f8_live2) 35 (St.tidy f8_live2 s) (blockA 2 (seqQ tab eX6 (subC [1,1,1,1,1] (bodyOf Tryz.f8)) [4] (endA tab Tryz.f8 R)))) (blockA 2 (seqQ tab eX6 (subC [1,1,1,1,1] (bodyOf Tryz.f8)) [4] (endA tab Tryz.f8 R))))))))
def f8_loop10 (R:AV→List Ob→Prop) (l:List TB.den) (gs:List T4.den) (gl:List TL.den) (s8''''':Int) (o2''''':List (Int×Int×Int)):Prop:=loopT f8_live10 (codeA tab eX6 (subC [1,1,1,1,0,1,0,0,1,0,0,0,1,0,0,1,0,0] (bodyOf Tryz.f8)) f8_live10) (f8_head10 l gs gl s8''''' o2''''') (f8_q10 R)
def f8_live11:List Nat:=[10,0,0,9,0,10,9,0,9,0,3,10,9,5,8,10,10,8,8,3,3,8,0,0,0,0,0,3,5,8,8,0,7,0,0,3,5,0,0,0,0,3,7,5,7,7,7,7,3,3,0,0,0,0,0,3,5,0,7,0,0,3,5,0,0,0,0,3,7,5,7,7,5,4]
set_option maxHeartbeats 2000000 in
def f8_head11 (l:List TB.den) (gs:List T4.den) (gl:List TL.den) (s8''''':Int) (s10'''''':Int) (o2'''''':List (Int×Int×Int)):St:={slots:=[AV.list 80 TB l,AV.undef,AV.undef,AV.ptr 0 0,AV.row 1,AV.row 2,AV.undef,AV.int .i64 6,AV.int .i64 s8''''',AV.ptr 3 0,AV.int .i64 s10'''''']++List.replicate 140 AV.undef,obs:=[Ob.cells 26 [AV.list 46 T4 gs,AV.list 48 (KI.pair (T4.pair (KI.pair KI))) gl],Ob.row 41 (KI.pair (KI.pair KI)) [],Ob.row 41 (KI.pair (KI.pair KI)) o2'''''',Ob.cells 48 [AV.int .i64 (gl.getD s8'''''.toNat (0,(0,0,0,0),0,0)).fst,AV.int .i64 (gl.getD s8'''''.toNat (0,(0,0,0,0),0,0)).snd.fst.fst,AV.int .i64 (gl.getD s8'''''.toNat (0,(0,0,0,0),0,0)).snd.fst.snd.fst,AV.int .i64 (gl.getD s8'''''.toNat (0,(0,0,0,0),0,0)).snd.fst.snd.snd.fst,AV.int .i64 (gl.getD s8'''''.toNat (0,(0,0,0,0),0,0)).snd.fst.snd.snd.snd,AV.int .i64 (gl.getD s8'''''.toNat (0,(0,0,0,0),0,0)).snd.snd.fst,AV.int .i64 (gl.getD s8'''''.toNat (0,(0,0,0,0),0,0)).snd.snd.snd]]}
def f8_q11 (R:AV→List Ob→Prop) (J5:St→Prop):Ex→St→Prop:=blockA 6 (blockA 5 (seqQ tab eX6 (subC [1,1,1,1,0,1,0,0,1,0,0,0,1,0,0,1,0,0,1,1] (bodyOf Tryz.f8)) [8,3,3,8,0,0,0,0,0,3,5,8,8,0,7,0,0,3,5,0,0,0,0,3,7,5,7,7,7,7,3,3,0,0,0,0,0,3,5,0,7,0,0,3,5,0,0,0,0,3,7,5,7,7,5,4] (thenA (fun s=>J5 (St.tidy f8_live10 s)) (blockA 4 (seqQ tab eX6 (subC [1,1,1,1,0,1,0,0,1,0,0,0,1,0,1] (bodyOf Tryz.f8)) [0,7,0,0,3,5,0,0,0,0,3,7,5,7,7,7,7,3,3,0,0,0,0,0,3,5,0,7,0,0,3,5,0,0,0,0,3,7,5,7,7,5,4] (seqQ tab eX6 (subC [1,1,1,1,0,1,0,0,1,0,0,1] (bodyOf Tryz.f8)) [7,7,7,3,3,0,0,0,0,0,3,5,0,7,0,0,3,5,0,0,0,0,3,7,5,7,7,5,4] (blockA 3 (seqQ tab eX6 (subC [1,1,1,1,0,1,0,0,1,1] (bodyOf Tryz.f8)) [7,7,3,3,0,0,0,0,0,3,5,0,7,0,0,3,5,0,0,0,0,3,7,5,7,7,5,4] (thenA (fun s=>loopU f8_live2 (codeA tab eX6 (subC [1,1,1,1,0,1,0,0] (bodyOf Tryz.f8)) f8_live2) 35 (St.tidy f8_live2 s) (blockA 2 (seqQ tab eX6 (subC [1,1,1,1,1] (bodyOf Tryz.f8)) [4] (endA tab Tryz.f8 R)))) (blockA 2 (seqQ tab eX6 (subC [1,1,1,1,1] (bodyOf Tryz.f8)) [4] (endA tab Tryz.f8 R))))))))))))
def f8_loop11 (R:AV→List Ob→Prop) (l:List TB.den) (gs:List T4.den) (gl:List TL.den) (s8''''':Int) (J5:St→Prop) (s10'''''':Int) (o2'''''':List (Int×Int×Int)):Prop:=loopT f8_live11 (codeA tab eX6 (subC [1,1,1,1,0,1,0,0,1,0,0,0,1,0,0,1,0,0,1,0,0,1,1,0,0] (bodyOf Tryz.f8)) f8_live11) (f8_head11 l gs gl s8''''' s10'''''' o2'''''') (f8_q11 R J5)
set_option maxHeartbeats 2000000 in
def f8_rhs11 (R:AV→List Ob→Prop) (l:List TB.den) (gs:List T4.den) (gl:List TL.den) (s8''''':Int) (J5:St→Prop) (J6:St→Prop) (s10'''''':Int) (o2'''''':List (Int×Int×Int)):Prop:=bif decide (s10''''''<(↑l.length:Int)) then l.length≤4096∧bif blk (rightX l ((gl.getD s8'''''.toNat (0,(0,0,0,0),0,0)).fst,((gl.getD s8'''''.toNat (0,(0,0,0,0),0,0)).snd.fst.fst,(gl.getD s8'''''.toNat (0,(0,0,0,0),0,0)).snd.fst.snd.fst,(gl.getD s8'''''.toNat (0,(0,0,0,0),0,0)).snd.fst.snd.snd.fst,(gl.getD s8'''''.toNat (0,(0,0,0,0),0,0)).snd.fst.snd.snd.snd),(gl.getD s8'''''.toNat (0,(0,0,0,0),0,0)).snd.snd.fst,(gl.getD s8'''''.toNat (0,(0,0,0,0),0,0)).snd.snd.snd)) then 0≤(gl.getD s8'''''.toNat (0,(0,0,0,0),0,0)).fst∧(gl.getD s8'''''.toNat (0,(0,0,0,0),0,0)).fst<(↑l.length:Int)∧l.length≤4096∧0≤s10''''''∧s10''''''<(↑l.length:Int)∧l.length≤4096∧bif blk (ahX l s10'''''' (gl.getD s8'''''.toNat (0,(0,0,0,0),0,0)).snd.snd.fst (blk (ctx6 l (gl.getD s8'''''.toNat (0,(0,0,0,0),0,0)).fst))) then 0≤s10''''''∧s10''''''<(↑l.length:Int)∧s10''''''<(↑gs.length:Int)∧bif blk (meet6 ((blk (mg6 l gs s10'''''')).fst,(blk (mg6 l gs s10'''''')).snd.fst,(blk (mg6 l gs s10'''''')).snd.snd.fst,(blk (mg6 l gs s10'''''')).snd.snd.snd) ((gl.getD s8'''''.toNat (0,(0,0,0,0),0,0)).snd.fst.fst,(gl.getD s8'''''.toNat (0,(0,0,0,0),0,0)).snd.fst.snd.fst,(gl.getD s8'''''.toNat (0,(0,0,0,0),0,0)).snd.fst.snd.snd.fst,(gl.getD s8'''''.toNat (0,(0,0,0,0),0,0)).snd.fst.snd.snd.snd)) then (o2''''''.length+1)*24≤140737488355328∧J6 (f8_head11 l gs gl s8''''' (IntKind.i64.wrap (s10''''''+1)) (o2''''''++[(6,s8''''',s10'''''')])) else J6 (f8_head11 l gs gl s8''''' (IntKind.i64.wrap (s10''''''+1)) o2'''''') else J6 (f8_head11 l gs gl s8''''' (IntKind.i64.wrap (s10''''''+1)) o2'''''') else J5 (f8_head10 l gs gl (IntKind.i64.wrap (s8'''''+1)) o2'''''') else J5 (f8_head10 l gs gl (IntKind.i64.wrap (s8'''''+1)) o2'''''')
theorem f8_eq11 (R:AV→List Ob→Prop) (l:List TB.den) (gs:List T4.den) (gl:List TL.den) (s8''''':Int) (J5:St→Prop) (J6:St→Prop) (s10'''''':Int) (o2'''''':List (Int×Int×Int)):codeA tab eX6 (subC [1,1,1,1,0,1,0,0,1,0,0,0,1,0,0,1,0,0,1,0,0,1,1,0,0] (bodyOf Tryz.f8)) f8_live11 (f8_head11 l gs gl s8''''' s10'''''' o2'''''') (thenA (fun s=>J6 (St.tidy f8_live11 s)) (f8_q11 R J5))=f8_rhs11 R l gs gl s8''''' J5 J6 s10'''''' o2'''''':=by kernel_rfl
set_option maxHeartbeats 2000000 in
theorem f8_rule11 (R:AV→List Ob→Prop) (l:List TB.den) (gs:List T4.den) (gl:List TL.den) (s8''''':Int) (J5:St→Prop) (I:Nat→(Int)→(List (Int×Int×Int))→Prop) (n:Nat) (s10'''''':Int) (o2'''''':List (Int×Int×Int)) (h0:I n s10'''''' o2'''''') (h:∀n,∀(s10'''''':Int) (o2'''''':List (Int×Int×Int)),I n s10'''''' o2''''''→f8_rhs11 R l gs gl s8''''' J5 (fun t=>∃m,m<n∧∃(s10'''''':Int) (o2'''''':List (Int×Int×Int)),t=f8_head11 l gs gl s8''''' s10'''''' o2''''''∧I m s10'''''' o2'''''') s10'''''' o2''''''):f8_loop11 R l gs gl s8''''' J5 s10'''''' o2'''''':=
 loop_intro (fun n t=>∃(s10'''''':Int) (o2'''''':List (Int×Int×Int)),t=f8_head11 l gs gl s8''''' s10'''''' o2''''''∧I n s10'''''' o2'''''') n ⟨s10'''''',o2'''''',rfl,h0⟩ (fun n t ht=>by obtain⟨s10'''''',o2'''''',rfl,hI⟩:=ht;exact Eq.mpr (f8_eq11 R l gs gl s8''''' J5 (fun t=>∃m,m<n∧∃(s10'''''':Int) (o2'''''':List (Int×Int×Int)),t=f8_head11 l gs gl s8''''' s10'''''' o2''''''∧I m s10'''''' o2'''''') s10'''''' o2'''''') (h n s10'''''' o2'''''' hI))
def f8_live12:List Nat:=[11,0,7,0,11,0,3,11,5,11,0,11,11,0,11,0,11,0,3,7,11,5,7,11,11,7,7,7,3,3,0,0,0,0,0,3,5,0,7,0,0,3,5,0,0,0,0,3,7,5,7,7,5,4]
def f8_head12 (l:List TB.den) (gs:List T4.den) (gl:List TL.den) (s11'''''':Int) (o2'''''':List (Int×Int×Int)):St:={slots:=[AV.list 80 TB l,AV.undef,AV.undef,AV.ptr 0 0,AV.row 1,AV.row 2,AV.undef,AV.int .i64 7,AV.undef,AV.undef,AV.undef,AV.int .i64 s11'''''']++List.replicate 139 AV.undef,obs:=[Ob.cells 26 [AV.list 46 T4 gs,AV.list 48 (KI.pair (T4.pair (KI.pair KI))) gl],Ob.row 41 (KI.pair (KI.pair KI)) [],Ob.row 41 (KI.pair (KI.pair KI)) o2'''''']}
def f8_q12 (R:AV→List Ob→Prop):Ex→St→Prop:=blockA 8 (blockA 3 (seqQ tab eX6 (subC [1,1,1,1,0,1,0,0,1,1] (bodyOf Tryz.f8)) [7,7,3,3,0,0,0,0,0,3,5,0,7,0,0,3,5,0,0,0,0,3,7,5,7,7,5,4] (thenA (fun s=>loopU f8_live2 (codeA tab eX6 (subC [1,1,1,1,0,1,0,0] (bodyOf Tryz.f8)) f8_live2) 34 (St.tidy f8_live2 s) (blockA 2 (seqQ tab eX6 (subC [1,1,1,1,1] (bodyOf Tryz.f8)) [4] (endA tab Tryz.f8 R)))) (blockA 2 (seqQ tab eX6 (subC [1,1,1,1,1] (bodyOf Tryz.f8)) [4] (endA tab Tryz.f8 R))))))
def f8_loop12 (R:AV→List Ob→Prop) (l:List TB.den) (gs:List T4.den) (gl:List TL.den) (s11'''''':Int) (o2'''''':List (Int×Int×Int)):Prop:=loopT f8_live12 (codeA tab eX6 (subC [1,1,1,1,0,1,0,0,1,0,0,1,1,0,0] (bodyOf Tryz.f8)) f8_live12) (f8_head12 l gs gl s11'''''' o2'''''') (f8_q12 R)
def f8_live13:List Nat:=[12,11,0,12,11,0,11,0,3,7,11,12,5,7,11,12,12,11,11,0,7,0,11,0,3,11,5,11,0,11,11,0,11,0,11,0,3,7,11,5,7,11,11,7,7,7,3,3,0,0,0,0,0,3,5,0,7,0,0,3,5,0,0,0,0,3,7,5,7,7,5,4]
def f8_head13 (l:List TB.den) (gs:List T4.den) (gl:List TL.den) (s11'''''':Int) (s12''''''':Int) (o2''''''':List (Int×Int×Int)):St:={slots:=[AV.list 80 TB l,AV.undef,AV.undef,AV.ptr 0 0,AV.row 1,AV.row 2,AV.undef,AV.int .i64 7,AV.undef,AV.undef,AV.undef,AV.int .i64 s11'''''',AV.int .i64 s12''''''']++List.replicate 138 AV.undef,obs:=[Ob.cells 26 [AV.list 46 T4 gs,AV.list 48 (KI.pair (T4.pair (KI.pair KI))) gl],Ob.row 41 (KI.pair (KI.pair KI)) [],Ob.row 41 (KI.pair (KI.pair KI)) o2''''''']}
def f8_q13 (R:AV→List Ob→Prop) (J6:St→Prop):Ex→St→Prop:=blockA 10 (blockA 9 (seqQ tab eX6 (subC [1,1,1,1,0,1,0,0,1,0,0,1,1,0,0,1,1] (bodyOf Tryz.f8)) [11,0,7,0,11,0,3,11,5,11,0,11,11,0,11,0,11,0,3,7,11,5,7,11,11,7,7,7,3,3,0,0,0,0,0,3,5,0,7,0,0,3,5,0,0,0,0,3,7,5,7,7,5,4] (thenA (fun s=>J6 (St.tidy f8_live12 s)) (blockA 8 (blockA 3 (seqQ tab eX6 (subC [1,1,1,1,0,1,0,0,1,1] (bodyOf Tryz.f8)) [7,7,3,3,0,0,0,0,0,3,5,0,7,0,0,3,5,0,0,0,0,3,7,5,7,7,5,4] (thenA (fun s=>loopU f8_live2 (codeA tab eX6 (subC [1,1,1,1,0,1,0,0] (bodyOf Tryz.f8)) f8_live2) 34 (St.tidy f8_live2 s) (blockA 2 (seqQ tab eX6 (subC [1,1,1,1,1] (bodyOf Tryz.f8)) [4] (endA tab Tryz.f8 R)))) (blockA 2 (seqQ tab eX6 (subC [1,1,1,1,1] (bodyOf Tryz.f8)) [4] (endA tab Tryz.f8 R))))))))))
def f8_loop13 (R:AV→List Ob→Prop) (l:List TB.den) (gs:List T4.den) (gl:List TL.den) (s11'''''':Int) (J6:St→Prop) (s12''''''':Int) (o2''''''':List (Int×Int×Int)):Prop:=loopT f8_live13 (codeA tab eX6 (subC [1,1,1,1,0,1,0,0,1,0,0,1,1,0,0,1,0,0,1,1,0,0] (bodyOf Tryz.f8)) f8_live13) (f8_head13 l gs gl s11'''''' s12''''''' o2''''''') (f8_q13 R J6)
def f8_rhs13 (R:AV→List Ob→Prop) (l:List TB.den) (gs:List T4.den) (gl:List TL.den) (s11'''''':Int) (J6:St→Prop) (J7:St→Prop) (s12''''''':Int) (o2''''''':List (Int×Int×Int)):Prop:=bif decide (s12'''''''<s11'''''') then 0≤s11''''''∧s11''''''<(↑l.length:Int)∧l.length≤4096∧0≤s12'''''''∧s12'''''''<(↑l.length:Int)∧l.length≤4096∧bif blk (ahX l s12''''''' s11'''''' (blk (ctx6 l s11''''''))) then 0≤s12'''''''∧s12'''''''<(↑l.length:Int)∧0≤s11''''''∧s11''''''<(↑l.length:Int)∧l.length≤4096∧gs.length=l.length∧bif blk (pairX l gs 7 s11'''''' s12''''''') then (o2'''''''.length+1)*24≤140737488355328∧J7 (f8_head13 l gs gl s11'''''' (IntKind.i64.wrap (s12'''''''+1)) (o2'''''''++[(7,s11'''''',s12''''''')])) else J7 (f8_head13 l gs gl s11'''''' (IntKind.i64.wrap (s12'''''''+1)) o2''''''') else J7 (f8_head13 l gs gl s11'''''' (IntKind.i64.wrap (s12'''''''+1)) o2''''''') else J6 (f8_head12 l gs gl (IntKind.i64.wrap (s11''''''+1)) o2''''''')
theorem f8_eq13 (R:AV→List Ob→Prop) (l:List TB.den) (gs:List T4.den) (gl:List TL.den) (s11'''''':Int) (J6:St→Prop) (J7:St→Prop) (s12''''''':Int) (o2''''''':List (Int×Int×Int)):codeA tab eX6 (subC [1,1,1,1,0,1,0,0,1,0,0,1,1,0,0,1,0,0,1,1,0,0] (bodyOf Tryz.f8)) f8_live13 (f8_head13 l gs gl s11'''''' s12''''''' o2''''''') (thenA (fun s=>J7 (St.tidy f8_live13 s)) (f8_q13 R J6))=f8_rhs13 R l gs gl s11'''''' J6 J7 s12''''''' o2''''''':=by kernel_rfl
set_option maxHeartbeats 2000000 in
theorem f8_rule13 (R:AV→List Ob→Prop) (l:List TB.den) (gs:List T4.den) (gl:List TL.den) (s11'''''':Int) (J6:St→Prop) (I:Nat→(Int)→(List (Int×Int×Int))→Prop) (n:Nat) (s12''''''':Int) (o2''''''':List (Int×Int×Int)) (h0:I n s12''''''' o2''''''') (h:∀n,∀(s12''''''':Int) (o2''''''':List (Int×Int×Int)),I n s12''''''' o2'''''''→f8_rhs13 R l gs gl s11'''''' J6 (fun t=>∃m,m<n∧∃(s12''''''':Int) (o2''''''':List (Int×Int×Int)),t=f8_head13 l gs gl s11'''''' s12''''''' o2'''''''∧I m s12''''''' o2''''''') s12''''''' o2'''''''):f8_loop13 R l gs gl s11'''''' J6 s12''''''' o2''''''':=
 loop_intro (fun n t=>∃(s12''''''':Int) (o2''''''':List (Int×Int×Int)),t=f8_head13 l gs gl s11'''''' s12''''''' o2'''''''∧I n s12''''''' o2''''''') n ⟨s12''''''',o2''''''',rfl,h0⟩ (fun n t ht=>by obtain⟨s12''''''',o2''''''',rfl,hI⟩:=ht;exact Eq.mpr (f8_eq13 R l gs gl s11'''''' J6 (fun t=>∃m,m<n∧∃(s12''''''':Int) (o2''''''':List (Int×Int×Int)),t=f8_head13 l gs gl s11'''''' s12''''''' o2'''''''∧I m s12''''''' o2''''''') s12''''''' o2''''''') (h n s12''''''' o2''''''' hI))
def f8_rhs12 (R:AV→List Ob→Prop) (l:List TB.den) (gs:List T4.den) (gl:List TL.den) (J6:St→Prop) (s11'''''':Int) (o2'''''':List (Int×Int×Int)):Prop:=bif decide (s11''''''<(↑l.length:Int)) then f8_loop13 R l gs gl s11'''''' J6 0 o2'''''' else R (AV.row 0) [Ob.row 41 (KI.pair (KI.pair KI)) o2'''''']
theorem f8_eq12 (R:AV→List Ob→Prop) (l:List TB.den) (gs:List T4.den) (gl:List TL.den) (J6:St→Prop) (s11'''''':Int) (o2'''''':List (Int×Int×Int)):codeA tab eX6 (subC [1,1,1,1,0,1,0,0,1,0,0,1,1,0,0] (bodyOf Tryz.f8)) f8_live12 (f8_head12 l gs gl s11'''''' o2'''''') (thenA (fun s=>J6 (St.tidy f8_live12 s)) (f8_q12 R))=f8_rhs12 R l gs gl J6 s11'''''' o2'''''':=by kernel_rfl
set_option maxHeartbeats 2000000 in
theorem f8_rule12 (R:AV→List Ob→Prop) (l:List TB.den) (gs:List T4.den) (gl:List TL.den) (I:Nat→(Int)→(List (Int×Int×Int))→Prop) (n:Nat) (s11'''''':Int) (o2'''''':List (Int×Int×Int)) (h0:I n s11'''''' o2'''''') (h:∀n,∀(s11'''''':Int) (o2'''''':List (Int×Int×Int)),I n s11'''''' o2''''''→f8_rhs12 R l gs gl (fun t=>∃m,m<n∧∃(s11'''''':Int) (o2'''''':List (Int×Int×Int)),t=f8_head12 l gs gl s11'''''' o2''''''∧I m s11'''''' o2'''''') s11'''''' o2''''''):f8_loop12 R l gs gl s11'''''' o2'''''':=
 loop_intro (fun n t=>∃(s11'''''':Int) (o2'''''':List (Int×Int×Int)),t=f8_head12 l gs gl s11'''''' o2''''''∧I n s11'''''' o2'''''') n ⟨s11'''''',o2'''''',rfl,h0⟩ (fun n t ht=>by obtain⟨s11'''''',o2'''''',rfl,hI⟩:=ht;exact Eq.mpr (f8_eq12 R l gs gl (fun t=>∃m,m<n∧∃(s11'''''':Int) (o2'''''':List (Int×Int×Int)),t=f8_head12 l gs gl s11'''''' o2''''''∧I m s11'''''' o2'''''') s11'''''' o2'''''') (h n s11'''''' o2'''''' hI))
def f8_rhs10 (R:AV→List Ob→Prop) (l:List TB.den) (gs:List T4.den) (gl:List TL.den) (J5:St→Prop) (s8''''':Int) (o2''''':List (Int×Int×Int)):Prop:=bif decide (s8'''''<(↑gl.length:Int)) then 0≤s8'''''∧s8'''''<(↑gl.length:Int)∧f8_loop11 R l gs gl s8''''' J5 0 o2''''' else f8_loop12 R l gs gl 1 o2'''''
theorem f8_eq10 (R:AV→List Ob→Prop) (l:List TB.den) (gs:List T4.den) (gl:List TL.den) (J5:St→Prop) (s8''''':Int) (o2''''':List (Int×Int×Int)):codeA tab eX6 (subC [1,1,1,1,0,1,0,0,1,0,0,0,1,0,0,1,0,0] (bodyOf Tryz.f8)) f8_live10 (f8_head10 l gs gl s8''''' o2''''') (thenA (fun s=>J5 (St.tidy f8_live10 s)) (f8_q10 R))=f8_rhs10 R l gs gl J5 s8''''' o2''''':=by kernel_rfl
set_option maxHeartbeats 2000000 in
theorem f8_rule10 (R:AV→List Ob→Prop) (l:List TB.den) (gs:List T4.den) (gl:List TL.den) (I:Nat→(Int)→(List (Int×Int×Int))→Prop) (n:Nat) (s8''''':Int) (o2''''':List (Int×Int×Int)) (h0:I n s8''''' o2''''') (h:∀n,∀(s8''''':Int) (o2''''':List (Int×Int×Int)),I n s8''''' o2'''''→f8_rhs10 R l gs gl (fun t=>∃m,m<n∧∃(s8''''':Int) (o2''''':List (Int×Int×Int)),t=f8_head10 l gs gl s8''''' o2'''''∧I m s8''''' o2''''') s8''''' o2'''''):f8_loop10 R l gs gl s8''''' o2''''':=
 loop_intro (fun n t=>∃(s8''''':Int) (o2''''':List (Int×Int×Int)),t=f8_head10 l gs gl s8''''' o2'''''∧I n s8''''' o2''''') n ⟨s8''''',o2''''',rfl,h0⟩ (fun n t ht=>by obtain⟨s8''''',o2''''',rfl,hI⟩:=ht;exact Eq.mpr (f8_eq10 R l gs gl (fun t=>∃m,m<n∧∃(s8''''':Int) (o2''''':List (Int×Int×Int)),t=f8_head10 l gs gl s8''''' o2'''''∧I m s8''''' o2''''') s8''''' o2''''') (h n s8''''' o2''''' hI))
def f8_rhs8 (R:AV→List Ob→Prop) (l:List TB.den) (gs:List T4.den) (gl:List TL.den) (J4:St→Prop) (s11'''':Int) (o2'''':List (Int×Int×Int)):Prop:=bif decide (s11''''<(↑l.length:Int)) then f8_loop9 R l gs gl s11'''' J4 0 o2'''' else f8_loop10 R l gs gl 0 o2''''
theorem f8_eq8 (R:AV→List Ob→Prop) (l:List TB.den) (gs:List T4.den) (gl:List TL.den) (J4:St→Prop) (s11'''':Int) (o2'''':List (Int×Int×Int)):codeA tab eX6 (subC [1,1,1,1,0,1,0,0,1,0,0,1,1,0,0] (bodyOf Tryz.f8)) f8_live8 (f8_head8 l gs gl s11'''' o2'''') (thenA (fun s=>J4 (St.tidy f8_live8 s)) (f8_q8 R))=f8_rhs8 R l gs gl J4 s11'''' o2'''':=by kernel_rfl
set_option maxHeartbeats 2000000 in
theorem f8_rule8 (R:AV→List Ob→Prop) (l:List TB.den) (gs:List T4.den) (gl:List TL.den) (I:Nat→(Int)→(List (Int×Int×Int))→Prop) (n:Nat) (s11'''':Int) (o2'''':List (Int×Int×Int)) (h0:I n s11'''' o2'''') (h:∀n,∀(s11'''':Int) (o2'''':List (Int×Int×Int)),I n s11'''' o2''''→f8_rhs8 R l gs gl (fun t=>∃m,m<n∧∃(s11'''':Int) (o2'''':List (Int×Int×Int)),t=f8_head8 l gs gl s11'''' o2''''∧I m s11'''' o2'''') s11'''' o2''''):f8_loop8 R l gs gl s11'''' o2'''':=
 loop_intro (fun n t=>∃(s11'''':Int) (o2'''':List (Int×Int×Int)),t=f8_head8 l gs gl s11'''' o2''''∧I n s11'''' o2'''') n ⟨s11'''',o2'''',rfl,h0⟩ (fun n t ht=>by obtain⟨s11'''',o2'''',rfl,hI⟩:=ht;exact Eq.mpr (f8_eq8 R l gs gl (fun t=>∃m,m<n∧∃(s11'''':Int) (o2'''':List (Int×Int×Int)),t=f8_head8 l gs gl s11'''' o2''''∧I m s11'''' o2'''') s11'''' o2'''') (h n s11'''' o2'''' hI))
def f8_rhs7 (R:AV→List Ob→Prop) (l:List TB.den) (gs:List T4.den) (gl:List TL.den) (J3:St→Prop) (s11''':Int) (o2''':List (Int×Int×Int)):Prop:=bif decide (s11'''<(↑l.length:Int)) then 0≤s11'''∧s11'''<(↑l.length:Int)∧bif (l.getD s11'''.toNat (0,0,0,0,0,0,(0,0,0,0),0,0,0,0)).snd.fst==2 then 0≤s11'''∧s11'''<(↑l.length:Int)∧l.length≤4096∧gs.length=l.length∧0≤par6 l s11'''∧bif blk (sideX l gs s11''') then 0≤s11'''∧s11'''<(↑l.length:Int)∧s11'''≤65536∧(o2'''.length+1)*24≤140737488355328∧J3 (f8_head7 l gs gl (IntKind.i64.wrap (s11'''+1)) (o2'''++[(4,s11''',blk (parFrom l (IntKind.i64.wrap ((l.getD s11'''.toNat zBx).fst-1)) s11'''.toNat))])) else J3 (f8_head7 l gs gl (IntKind.i64.wrap (s11'''+1)) o2''') else J3 (f8_head7 l gs gl (IntKind.i64.wrap (s11'''+1)) o2''') else f8_loop8 R l gs gl 1 o2'''
theorem f8_eq7 (R:AV→List Ob→Prop) (l:List TB.den) (gs:List T4.den) (gl:List TL.den) (J3:St→Prop) (s11''':Int) (o2''':List (Int×Int×Int)):codeA tab eX6 (subC [1,1,1,1,0,1,0,0,1,0,0,1,1,0,0] (bodyOf Tryz.f8)) f8_live7 (f8_head7 l gs gl s11''' o2''') (thenA (fun s=>J3 (St.tidy f8_live7 s)) (f8_q7 R))=f8_rhs7 R l gs gl J3 s11''' o2''':=by kernel_rfl
set_option maxHeartbeats 2000000 in
theorem f8_rule7 (R:AV→List Ob→Prop) (l:List TB.den) (gs:List T4.den) (gl:List TL.den) (I:Nat→(Int)→(List (Int×Int×Int))→Prop) (n:Nat) (s11''':Int) (o2''':List (Int×Int×Int)) (h0:I n s11''' o2''') (h:∀n,∀(s11''':Int) (o2''':List (Int×Int×Int)),I n s11''' o2'''→f8_rhs7 R l gs gl (fun t=>∃m,m<n∧∃(s11''':Int) (o2''':List (Int×Int×Int)),t=f8_head7 l gs gl s11''' o2'''∧I m s11''' o2''') s11''' o2'''):f8_loop7 R l gs gl s11''' o2''':=
 loop_intro (fun n t=>∃(s11''':Int) (o2''':List (Int×Int×Int)),t=f8_head7 l gs gl s11''' o2'''∧I n s11''' o2''') n ⟨s11''',o2''',rfl,h0⟩ (fun n t ht=>by obtain⟨s11''',o2''',rfl,hI⟩:=ht;exact Eq.mpr (f8_eq7 R l gs gl (fun t=>∃m,m<n∧∃(s11''':Int) (o2''':List (Int×Int×Int)),t=f8_head7 l gs gl s11''' o2'''∧I m s11''' o2''') s11''' o2''') (h n s11''' o2''' hI))
def f8_rhs5 (R:AV→List Ob→Prop) (l:List TB.den) (gs:List T4.den) (gl:List TL.den) (J2:St→Prop) (s11'':Int) (o2'':List (Int×Int×Int)):Prop:=bif decide (s11''<(↑l.length:Int)) then f8_loop6 R l gs gl s11'' J2 0 o2'' else f8_loop7 R l gs gl 1 o2''
theorem f8_eq5 (R:AV→List Ob→Prop) (l:List TB.den) (gs:List T4.den) (gl:List TL.den) (J2:St→Prop) (s11'':Int) (o2'':List (Int×Int×Int)):codeA tab eX6 (subC [1,1,1,1,0,1,0,0,1,0,0,1,1,0,0] (bodyOf Tryz.f8)) f8_live5 (f8_head5 l gs gl s11'' o2'') (thenA (fun s=>J2 (St.tidy f8_live5 s)) (f8_q5 R))=f8_rhs5 R l gs gl J2 s11'' o2'':=by kernel_rfl
set_option maxHeartbeats 2000000 in
theorem f8_rule5 (R:AV→List Ob→Prop) (l:List TB.den) (gs:List T4.den) (gl:List TL.den) (I:Nat→(Int)→(List (Int×Int×Int))→Prop) (n:Nat) (s11'':Int) (o2'':List (Int×Int×Int)) (h0:I n s11'' o2'') (h:∀n,∀(s11'':Int) (o2'':List (Int×Int×Int)),I n s11'' o2''→f8_rhs5 R l gs gl (fun t=>∃m,m<n∧∃(s11'':Int) (o2'':List (Int×Int×Int)),t=f8_head5 l gs gl s11'' o2''∧I m s11'' o2'') s11'' o2''):f8_loop5 R l gs gl s11'' o2'':=
 loop_intro (fun n t=>∃(s11'':Int) (o2'':List (Int×Int×Int)),t=f8_head5 l gs gl s11'' o2''∧I n s11'' o2'') n ⟨s11'',o2'',rfl,h0⟩ (fun n t ht=>by obtain⟨s11'',o2'',rfl,hI⟩:=ht;exact Eq.mpr (f8_eq5 R l gs gl (fun t=>∃m,m<n∧∃(s11'':Int) (o2'':List (Int×Int×Int)),t=f8_head5 l gs gl s11'' o2''∧I m s11'' o2'') s11'' o2'') (h n s11'' o2'' hI))
def f8_rhs3 (R:AV→List Ob→Prop) (l:List TB.den) (gs:List T4.den) (gl:List TL.den) (J1:St→Prop) (s11':Int) (o2':List (Int×Int×Int)):Prop:=bif decide (s11'<(↑l.length:Int)) then f8_loop4 R l gs gl s11' J1 0 o2' else f8_loop5 R l gs gl 1 o2'
theorem f8_eq3 (R:AV→List Ob→Prop) (l:List TB.den) (gs:List T4.den) (gl:List TL.den) (J1:St→Prop) (s11':Int) (o2':List (Int×Int×Int)):codeA tab eX6 (subC [1,1,1,1,0,1,0,0,1,0,0,1,1,0,0] (bodyOf Tryz.f8)) f8_live3 (f8_head3 l gs gl s11' o2') (thenA (fun s=>J1 (St.tidy f8_live3 s)) (f8_q3 R))=f8_rhs3 R l gs gl J1 s11' o2':=by kernel_rfl
set_option maxHeartbeats 2000000 in
theorem f8_rule3 (R:AV→List Ob→Prop) (l:List TB.den) (gs:List T4.den) (gl:List TL.den) (I:Nat→(Int)→(List (Int×Int×Int))→Prop) (n:Nat) (s11':Int) (o2':List (Int×Int×Int)) (h0:I n s11' o2') (h:∀n,∀(s11':Int) (o2':List (Int×Int×Int)),I n s11' o2'→f8_rhs3 R l gs gl (fun t=>∃m,m<n∧∃(s11':Int) (o2':List (Int×Int×Int)),t=f8_head3 l gs gl s11' o2'∧I m s11' o2') s11' o2'):f8_loop3 R l gs gl s11' o2':=
 loop_intro (fun n t=>∃(s11':Int) (o2':List (Int×Int×Int)),t=f8_head3 l gs gl s11' o2'∧I n s11' o2') n ⟨s11',o2',rfl,h0⟩ (fun n t ht=>by obtain⟨s11',o2',rfl,hI⟩:=ht;exact Eq.mpr (f8_eq3 R l gs gl (fun t=>∃m,m<n∧∃(s11':Int) (o2':List (Int×Int×Int)),t=f8_head3 l gs gl s11' o2'∧I m s11' o2') s11' o2') (h n s11' o2' hI))
theorem f8_eq2 (R:AV→List Ob→Prop) (l:List TB.den) (gs:List T4.den) (gl:List TL.den) (o2:List (Int×Int×Int)):loopU f8_live2 (codeA tab eX6 (subC [1,1,1,1,0,1,0,0] (bodyOf Tryz.f8)) f8_live2) 40 (f8_head2 l gs gl o2) (f8_q2 R)=(f8_loop3 R l gs gl 1 o2):=by kernel_rfl
set_option maxHeartbeats 2000000 in
theorem f8_rule2 (R:AV→List Ob→Prop) (l:List TB.den) (gs:List T4.den) (gl:List TL.den) (o2:List (Int×Int×Int)) (h:f8_loop3 R l gs gl 1 o2):f8_loop2 R l gs gl o2:=loop_rounds 40 (Eq.mpr (f8_eq2 R l gs gl o2) h)
def f8_rhs1 (R:AV→List Ob→Prop) (l:List TB.den) (gs:List T4.den) (gl:List TL.den) (J:St→Prop) (s6:Int) (o2:List (Int×Int×Int)):Prop:=bif decide (s6<(↑gl.length:Int)) then 0≤s6∧s6<(↑gl.length:Int)∧l.length≤4096∧bif !blk (rightX l ((gl.getD s6.toNat (0,(0,0,0,0),0,0)).fst,((gl.getD s6.toNat (0,(0,0,0,0),0,0)).snd.fst.fst,(gl.getD s6.toNat (0,(0,0,0,0),0,0)).snd.fst.snd.fst,(gl.getD s6.toNat (0,(0,0,0,0),0,0)).snd.fst.snd.snd.fst,(gl.getD s6.toNat (0,(0,0,0,0),0,0)).snd.fst.snd.snd.snd),(gl.getD s6.toNat (0,(0,0,0,0),0,0)).snd.snd.fst,(gl.getD s6.toNat (0,(0,0,0,0),0,0)).snd.snd.snd)) then (o2.length+1)*24≤140737488355328∧J (f8_head1 l gs gl (IntKind.i64.wrap (s6+1)) (o2++[(1,s6,-1)])) else J (f8_head1 l gs gl (IntKind.i64.wrap (s6+1)) o2) else f8_loop2 R l gs gl o2
theorem f8_eq1 (R:AV→List Ob→Prop) (l:List TB.den) (gs:List T4.den) (gl:List TL.den) (J:St→Prop) (s6:Int) (o2:List (Int×Int×Int)):codeA tab eX6 (subC [1,1,1,0,1,0,0] (bodyOf Tryz.f8)) f8_live1 (f8_head1 l gs gl s6 o2) (thenA (fun s=>J (St.tidy f8_live1 s)) (f8_q1 R))=f8_rhs1 R l gs gl J s6 o2:=by kernel_rfl
set_option maxHeartbeats 2000000 in
theorem f8_rule1 (R:AV→List Ob→Prop) (l:List TB.den) (gs:List T4.den) (gl:List TL.den) (I:Nat→(Int)→(List (Int×Int×Int))→Prop) (n:Nat) (s6:Int) (o2:List (Int×Int×Int)) (h0:I n s6 o2) (h:∀n,∀(s6:Int) (o2:List (Int×Int×Int)),I n s6 o2→f8_rhs1 R l gs gl (fun t=>∃m,m<n∧∃(s6:Int) (o2:List (Int×Int×Int)),t=f8_head1 l gs gl s6 o2∧I m s6 o2) s6 o2):f8_loop1 R l gs gl s6 o2:=
 loop_intro (fun n t=>∃(s6:Int) (o2:List (Int×Int×Int)),t=f8_head1 l gs gl s6 o2∧I n s6 o2) n ⟨s6,o2,rfl,h0⟩ (fun n t ht=>by obtain⟨s6,o2,rfl,hI⟩:=ht;exact Eq.mpr (f8_eq1 R l gs gl (fun t=>∃m,m<n∧∃(s6:Int) (o2:List (Int×Int×Int)),t=f8_head1 l gs gl s6 o2∧I m s6 o2) s6 o2) (h n s6 o2 hI))
theorem f8_run (R:AV→List Ob→Prop) (l:List TB.den) (gs:List T4.den) (gl:List TL.den):fnA tab eX6 Tryz.f8 (bodyOf Tryz.f8) [.list 80 TB l,.agg (.cons (.list 46 T4 gs) (.cons (.list 48 TL gl) .nl))] R=(bif (↑gs.length:Int) != (↑l.length:Int) then R (AV.row 0) [Ob.row 41 (KI.pair (KI.pair KI)) [(1,-1,-1)]] else f8_loop1 R l gs gl 0 []):=by kernel_rfl
theorem t8_12 (R:AV→List Ob→Prop) (l:List TB.den) (gs:List T4.den) (gl:List TL.den) (h2:l.length≤4096) (h3:gs.length=l.length) (hg:gl.length≤4096) (hl:0<l.length) (P:List Ft) (hP:P.length≤100663296) (h:R (AV.row 0) [Ob.row 41 (KI.pair (KI.pair KI)) (P++prR l gs 7)]):f8_loop12 R l gs gl 1 P:=by
 refine f8_rule12 R l gs gl (fun n s q=>∃k:Nat,s=k∧k≤l.length∧n=l.length-k∧q=P++(List.range k).flatMap (prI l gs 7)) (l.length-1) 1 P ⟨1,rfl,by omega,rfl,by simp[prI]⟩ ?_
 rintro n s q ⟨k,rfl,hk,rfl,rfl⟩
 unfold f8_rhs12
 refine dec_split (fun hlt => ?_) (fun hlt => ?_)
 · have hlt:k<l.length:=by omega
   refine f8_rule13 R l gs gl (k:Int) _ (fun n s q=>∃i:Nat,s=i∧i≤k∧n=k-i∧q=P++(List.range k).flatMap (prI l gs 7)++(List.range i).flatMap (prE l gs 7 k)) k 0 _ ⟨0,rfl,by omega,rfl,by simp⟩ ?_
   rintro n s q ⟨i,rfl,hi,rfl,rfl⟩
   unfold f8_rhs13
   have hb1:=prR_len l gs 7 h2 k (by omega)
   have hb2:=part_len (prE l gs 7 k) (prE_len l gs 7 k) i
   simp only[blk_eq]
   refine dec_split (fun hlt' => ?_) (fun hlt' => ?_)
   · have hlt':i<k:=by omega
     have hn:=range_flat (prE l gs 7 k) i
     refine⟨by omega,by omega,h2,by omega,by omega,h2,cond_split (fun hc=>⟨by omega,by omega,by omega,by omega,h2,h3,cond_split (fun hd=>⟨?_,?_⟩) (fun hd => ?_)⟩) (fun hc => ?_)⟩
     · rw[List.length_append,List.length_append];omega
     · have e:prE l gs 7 k i=[(7,(k:Int),(i:Int))]:=by unfold prE;rw[hc,hd];rfl
       exact⟨k-(i+1),by omega,_,_,rfl,i+1,wrap_id _ (by omega),by omega,rfl,by rw[hn,e,List.append_assoc _ _ [_]]⟩
     · have e:prE l gs 7 k i=[]:=by unfold prE;rw[hc,hd];rfl
       exact⟨k-(i+1),by omega,_,_,rfl,i+1,wrap_id _ (by omega),by omega,rfl,by rw[hn,e,List.append_nil]⟩
     · have e:prE l gs 7 k i=[]:=by unfold prE;rw[hc];rfl
       exact⟨k-(i+1),by omega,_,_,rfl,i+1,wrap_id _ (by omega),by omega,rfl,by rw[hn,e,List.append_nil]⟩
   · have e:i=k:=by omega
     subst e
     exact⟨l.length-(i+1),by omega,_,_,rfl,i+1,wrap_id _ (by omega),by omega,rfl,by rw[range_flat (prI l gs 7) i,←List.append_assoc];rfl⟩
 · have e:k=l.length:=by omega
   subst e
   exact h
theorem t8_10 (R:AV→List Ob→Prop) (l:List TB.den) (gs:List T4.den) (gl:List TL.den) (h2:l.length≤4096) (h3:gs.length=l.length) (hg:gl.length≤4096) (hl:0<l.length) (P:List Ft) (hP:P.length≤83886080) (h:R (AV.row 0) [Ob.row 41 (KI.pair (KI.pair KI)) (P++agR l gs gl++prR l gs 7)]):f8_loop10 R l gs gl 0 P:=by
 refine f8_rule10 R l gs gl (fun n s q=>∃k:Nat,s=k∧k≤gl.length∧n=gl.length-k∧q=P++(List.range k).flatMap (agI l gs gl)) gl.length 0 P ⟨0,rfl,by omega,rfl,by simp⟩ ?_
 rintro n s q ⟨k,rfl,hk,rfl,rfl⟩
 unfold f8_rhs10
 have hb1:=agR_len l gs gl h2 k (by omega)
 refine dec_split (fun hlt=>⟨by omega,hlt,?_⟩) (fun hlt => ?_)
 · have hlt:k<gl.length:=by omega
   have hnx:=range_flat (agI l gs gl) k
   refine f8_rule11 R l gs gl (k:Int) _ (fun n s q=>∃i:Nat,s=i∧i≤l.length∧n=l.length-i∧(rightX l (gl.getD k zLn)=false→i=0)∧q=P++(List.range k).flatMap (agI l gs gl)++(List.range i).flatMap (agE l gs gl k)) l.length 0 _ ⟨0,rfl,by omega,rfl,fun _=>rfl,by simp⟩ ?_
   rintro n s q ⟨i,rfl,hi,rfl,hz,rfl⟩
   unfold f8_rhs11
   have hb2:=part_len (agE l gs gl k) (agE_len l gs gl k) i
   simp only[blk_eq,Int.toNat_natCast]
   refine dec_split (fun hlt'=>⟨h2,?_⟩) (fun hlt' => ?_)
   · have hlt':i<l.length:=by omega
     have hn:=range_flat (agE l gs gl k) i
     refine cond_split (fun hr => ?_) (fun hr => ?_)
     · have hr:rightX l (gl.getD k zLn)=true:=hr
       obtain⟨r0,r1⟩:=right_at hr
       refine⟨r0,r1,h2,by omega,by omega,h2,cond_split (fun hc=>⟨by omega,by omega,by omega,cond_split (fun hd=>⟨?_,?_⟩) (fun hd => ?_)⟩) (fun hc => ?_)⟩
       · rw[List.length_append,List.length_append];omega
       · have e:agE l gs gl k i=[(6,(k:Int),(i:Int))]:=by unfold agE;rw[show ahX l i (gl.getD k zLn).2.2.1 (ctx6 l (gl.getD k zLn).1)=true from hc,show meet6 (mg6 l gs i) (gl.getD k zLn).2.1=true from hd];rfl
         exact⟨l.length-(i+1),by omega,_,_,rfl,i+1,wrap_id _ (by omega),by omega,rfl,(fun hh=>by rw[hr] at hh;cases hh),by rw[hn,e,List.append_assoc _ _ [_]]⟩
       · have e:agE l gs gl k i=[]:=by unfold agE;rw[show ahX l i (gl.getD k zLn).2.2.1 (ctx6 l (gl.getD k zLn).1)=true from hc,show meet6 (mg6 l gs i) (gl.getD k zLn).2.1=false from hd];rfl
         exact⟨l.length-(i+1),by omega,_,_,rfl,i+1,wrap_id _ (by omega),by omega,rfl,(fun hh=>by rw[hr] at hh;cases hh),by rw[hn,e,List.append_nil]⟩
       · have e:agE l gs gl k i=[]:=by unfold agE;rw[show ahX l i (gl.getD k zLn).2.2.1 (ctx6 l (gl.getD k zLn).1)=false from hc];rfl
         exact⟨l.length-(i+1),by omega,_,_,rfl,i+1,wrap_id _ (by omega),by omega,rfl,(fun hh=>by rw[hr] at hh;cases hh),by rw[hn,e,List.append_nil]⟩
     · have hr:rightX l (gl.getD k zLn)=false:=hr
       have hi0:=hz hr
       subst hi0
       exact⟨gl.length-(k+1),by omega,_,_,rfl,k+1,wrap_id _ (by omega),by omega,rfl,by rw[hnx];unfold agI;rw[hr];simp⟩
   · have e:i=l.length:=by omega
     have hr:rightX l (gl.getD k zLn)=true:=by
      cases hr:rightX l (gl.getD k zLn) with
      | true=>rfl
      | false=>have:=hz hr;omega
     exact⟨gl.length-(k+1),by omega,_,_,rfl,k+1,wrap_id _ (by omega),by omega,rfl,by rw[hnx,e,←List.append_assoc];unfold agI;rw[hr];rfl⟩
 · have e:k=gl.length:=by omega
   subst e
   exact t8_12 R l gs gl h2 h3 hg hl _ (by rw[List.length_append];omega) h
theorem t8_8 (R:AV→List Ob→Prop) (l:List TB.den) (gs:List T4.den) (gl:List TL.den) (h2:l.length≤4096) (h3:gs.length=l.length) (hg:gl.length≤4096) (hl:0<l.length) (P:List Ft) (hP:P.length≤67108864) (h:R (AV.row 0) [Ob.row 41 (KI.pair (KI.pair KI)) (P++prR l gs 5++agR l gs gl++prR l gs 7)]):f8_loop8 R l gs gl 1 P:=by
 refine f8_rule8 R l gs gl (fun n s q=>∃k:Nat,s=k∧k≤l.length∧n=l.length-k∧q=P++(List.range k).flatMap (prI l gs 5)) (l.length-1) 1 P ⟨1,rfl,by omega,rfl,by simp[prI]⟩ ?_
 rintro n s q ⟨k,rfl,hk,rfl,rfl⟩
 unfold f8_rhs8
 refine dec_split (fun hlt => ?_) (fun hlt => ?_)
 · have hlt:k<l.length:=by omega
   refine f8_rule9 R l gs gl (k:Int) _ (fun n s q=>∃i:Nat,s=i∧i≤k∧n=k-i∧q=P++(List.range k).flatMap (prI l gs 5)++(List.range i).flatMap (prE l gs 5 k)) k 0 _ ⟨0,rfl,by omega,rfl,by simp⟩ ?_
   rintro n s q ⟨i,rfl,hi,rfl,rfl⟩
   unfold f8_rhs9
   have hb1:=prR_len l gs 5 h2 k (by omega)
   have hb2:=part_len (prE l gs 5 k) (prE_len l gs 5 k) i
   simp only[blk_eq]
   refine dec_split (fun hlt' => ?_) (fun hlt' => ?_)
   · have hlt':i<k:=by omega
     have hn:=range_flat (prE l gs 5 k) i
     refine⟨by omega,by omega,h2,by omega,by omega,h2,cond_split (fun hc=>⟨by omega,by omega,by omega,by omega,h2,h3,cond_split (fun hd=>⟨?_,?_⟩) (fun hd => ?_)⟩) (fun hc => ?_)⟩
     · rw[List.length_append,List.length_append];omega
     · have e:prE l gs 5 k i=[(5,(k:Int),(i:Int))]:=by unfold prE;rw[hc,hd];rfl
       exact⟨k-(i+1),by omega,_,_,rfl,i+1,wrap_id _ (by omega),by omega,rfl,by rw[hn,e,List.append_assoc _ _ [_]]⟩
     · have e:prE l gs 5 k i=[]:=by unfold prE;rw[hc,hd];rfl
       exact⟨k-(i+1),by omega,_,_,rfl,i+1,wrap_id _ (by omega),by omega,rfl,by rw[hn,e,List.append_nil]⟩
     · have e:prE l gs 5 k i=[]:=by unfold prE;rw[hc];rfl
       exact⟨k-(i+1),by omega,_,_,rfl,i+1,wrap_id _ (by omega),by omega,rfl,by rw[hn,e,List.append_nil]⟩
   · have e:i=k:=by omega
     subst e
     exact⟨l.length-(i+1),by omega,_,_,rfl,i+1,wrap_id _ (by omega),by omega,rfl,by rw[range_flat (prI l gs 5) i,←List.append_assoc];rfl⟩
 · have e:k=l.length:=by omega
   subst e
   exact t8_10 R l gs gl h2 h3 hg hl _ (by have:=prR_len l gs 5 h2 l.length (Nat.le_refl _);rw[List.length_append];omega) h
theorem t8_7 (R:AV→List Ob→Prop) (l:List TB.den) (gs:List T4.den) (gl:List TL.den) (h2:l.length≤4096) (h3:gs.length=l.length) (hg:gl.length≤4096) (hl:0<l.length) (hp:∀k:Nat,0<k→k<l.length→0≤par6 l k) (P:List Ft) (hP:P.length≤50331648) (h:R (AV.row 0) [Ob.row 41 (KI.pair (KI.pair KI)) (P++sdR l gs++prR l gs 5++agR l gs gl++prR l gs 7)]):f8_loop7 R l gs gl 1 P:=by
 refine f8_rule7 R l gs gl (fun n s q=>∃k:Nat,s=k∧0<k∧k≤l.length∧n=l.length-k∧q=P++(List.range k).flatMap (sdI l gs)) (l.length-1) 1 P ⟨1,rfl,by omega,by omega,rfl,by simp[sdI]⟩ ?_
 rintro n s q ⟨k,rfl,hk0,hk,rfl,rfl⟩
 unfold f8_rhs7
 have hb1:=part_len (sdI l gs) (sdI_len l gs) k
 simp only[blk_eq,Int.toNat_natCast]
 refine dec_split (fun hlt=>⟨by omega,hlt,?_⟩) (fun hlt => ?_)
 · have hlt:k<l.length:=by omega
   have hn:=range_flat (sdI l gs) k
   refine cond_split (fun hc=>⟨by omega,by omega,h2,h3,hp k hk0 hlt,cond_split (fun hd=>⟨by omega,by omega,by omega,?_,?_⟩) (fun hd => ?_)⟩) (fun hc => ?_)
   · rw[List.length_append];omega
   · have e:sdI l gs k=[(4,(k:Int),par6 l k)]:=by unfold sdI;rw[decide_eq_true hk0,show ((l.getD k zBx).2.1==2)=true from hc,hd];rfl
     exact⟨l.length-(k+1),by omega,_,_,rfl,k+1,wrap_id _ (by omega),by omega,by omega,rfl,by rw[hn,e,List.append_assoc _ _ [_]];rfl⟩
   · have e:sdI l gs k=[]:=by unfold sdI;rw[decide_eq_true hk0,show ((l.getD k zBx).2.1==2)=true from hc,hd];rfl
     exact⟨l.length-(k+1),by omega,_,_,rfl,k+1,wrap_id _ (by omega),by omega,by omega,rfl,by rw[hn,e,List.append_nil]⟩
   · have e:sdI l gs k=[]:=by unfold sdI;rw[decide_eq_true hk0,show ((l.getD k zBx).2.1==2)=false from hc];rfl
     exact⟨l.length-(k+1),by omega,_,_,rfl,k+1,wrap_id _ (by omega),by omega,by omega,rfl,by rw[hn,e,List.append_nil]⟩
 · have e:k=l.length:=by omega
   subst e
   exact t8_8 R l gs gl h2 h3 hg hl _ (by rw[List.length_append];omega) h
theorem t8_5 (R:AV→List Ob→Prop) (l:List TB.den) (gs:List T4.den) (gl:List TL.den) (h2:l.length≤4096) (h3:gs.length=l.length) (hg:gl.length≤4096) (hl:0<l.length) (hp:∀k:Nat,0<k→k<l.length→0≤par6 l k) (P:List Ft) (hP:P.length≤33554432) (h:R (AV.row 0) [Ob.row 41 (KI.pair (KI.pair KI)) (P++prR l gs 3++sdR l gs++prR l gs 5++agR l gs gl++prR l gs 7)]):f8_loop5 R l gs gl 1 P:=by
 refine f8_rule5 R l gs gl (fun n s q=>∃k:Nat,s=k∧k≤l.length∧n=l.length-k∧q=P++(List.range k).flatMap (prI l gs 3)) (l.length-1) 1 P ⟨1,rfl,by omega,rfl,by simp[prI]⟩ ?_
 rintro n s q ⟨k,rfl,hk,rfl,rfl⟩
 unfold f8_rhs5
 refine dec_split (fun hlt => ?_) (fun hlt => ?_)
 · have hlt:k<l.length:=by omega
   refine f8_rule6 R l gs gl (k:Int) _ (fun n s q=>∃i:Nat,s=i∧i≤k∧n=k-i∧q=P++(List.range k).flatMap (prI l gs 3)++(List.range i).flatMap (prE l gs 3 k)) k 0 _ ⟨0,rfl,by omega,rfl,by simp⟩ ?_
   rintro n s q ⟨i,rfl,hi,rfl,rfl⟩
   unfold f8_rhs6
   have hb1:=prR_len l gs 3 h2 k (by omega)
   have hb2:=part_len (prE l gs 3 k) (prE_len l gs 3 k) i
   simp only[blk_eq]
   refine dec_split (fun hlt' => ?_) (fun hlt' => ?_)
   · have hlt':i<k:=by omega
     have hn:=range_flat (prE l gs 3 k) i
     refine⟨by omega,by omega,h2,by omega,by omega,h2,cond_split (fun hc=>⟨by omega,by omega,by omega,by omega,h2,h3,cond_split (fun hd=>⟨?_,?_⟩) (fun hd => ?_)⟩) (fun hc => ?_)⟩
     · rw[List.length_append,List.length_append];omega
     · have e:prE l gs 3 k i=[(3,(k:Int),(i:Int))]:=by unfold prE;rw[hc,hd];rfl
       exact⟨k-(i+1),by omega,_,_,rfl,i+1,wrap_id _ (by omega),by omega,rfl,by rw[hn,e,List.append_assoc _ _ [_]]⟩
     · have e:prE l gs 3 k i=[]:=by unfold prE;rw[hc,hd];rfl
       exact⟨k-(i+1),by omega,_,_,rfl,i+1,wrap_id _ (by omega),by omega,rfl,by rw[hn,e,List.append_nil]⟩
     · have e:prE l gs 3 k i=[]:=by unfold prE;rw[hc];rfl
       exact⟨k-(i+1),by omega,_,_,rfl,i+1,wrap_id _ (by omega),by omega,rfl,by rw[hn,e,List.append_nil]⟩
   · have e:i=k:=by omega
     subst e
     exact⟨l.length-(i+1),by omega,_,_,rfl,i+1,wrap_id _ (by omega),by omega,rfl,by rw[range_flat (prI l gs 3) i,←List.append_assoc];rfl⟩
 · have e:k=l.length:=by omega
   subst e
   exact t8_7 R l gs gl h2 h3 hg hl hp _ (by have:=prR_len l gs 3 h2 l.length (Nat.le_refl _);rw[List.length_append];omega) h
theorem t8_3 (R:AV→List Ob→Prop) (l:List TB.den) (gs:List T4.den) (gl:List TL.den) (h2:l.length≤4096) (h3:gs.length=l.length) (hg:gl.length≤4096) (hl:0<l.length) (hp:∀k:Nat,0<k→k<l.length→0≤par6 l k) (P:List Ft) (hP:P.length≤16777216) (h:R (AV.row 0) [Ob.row 41 (KI.pair (KI.pair KI)) (P++prR l gs 2++prR l gs 3++sdR l gs++prR l gs 5++agR l gs gl++prR l gs 7)]):f8_loop3 R l gs gl 1 P:=by
 refine f8_rule3 R l gs gl (fun n s q=>∃k:Nat,s=k∧k≤l.length∧n=l.length-k∧q=P++(List.range k).flatMap (prI l gs 2)) (l.length-1) 1 P ⟨1,rfl,by omega,rfl,by simp[prI]⟩ ?_
 rintro n s q ⟨k,rfl,hk,rfl,rfl⟩
 unfold f8_rhs3
 refine dec_split (fun hlt => ?_) (fun hlt => ?_)
 · have hlt:k<l.length:=by omega
   refine f8_rule4 R l gs gl (k:Int) _ (fun n s q=>∃i:Nat,s=i∧i≤k∧n=k-i∧q=P++(List.range k).flatMap (prI l gs 2)++(List.range i).flatMap (prE l gs 2 k)) k 0 _ ⟨0,rfl,by omega,rfl,by simp⟩ ?_
   rintro n s q ⟨i,rfl,hi,rfl,rfl⟩
   unfold f8_rhs4
   have hb1:=prR_len l gs 2 h2 k (by omega)
   have hb2:=part_len (prE l gs 2 k) (prE_len l gs 2 k) i
   simp only[blk_eq]
   refine dec_split (fun hlt' => ?_) (fun hlt' => ?_)
   · have hlt':i<k:=by omega
     have hn:=range_flat (prE l gs 2 k) i
     refine⟨by omega,by omega,h2,by omega,by omega,h2,cond_split (fun hc=>⟨by omega,by omega,by omega,by omega,h2,h3,cond_split (fun hd=>⟨?_,?_⟩) (fun hd => ?_)⟩) (fun hc => ?_)⟩
     · rw[List.length_append,List.length_append];omega
     · have e:prE l gs 2 k i=[(2,(k:Int),(i:Int))]:=by unfold prE;rw[hc,hd];rfl
       exact⟨k-(i+1),by omega,_,_,rfl,i+1,wrap_id _ (by omega),by omega,rfl,by rw[hn,e,List.append_assoc _ _ [_]]⟩
     · have e:prE l gs 2 k i=[]:=by unfold prE;rw[hc,hd];rfl
       exact⟨k-(i+1),by omega,_,_,rfl,i+1,wrap_id _ (by omega),by omega,rfl,by rw[hn,e,List.append_nil]⟩
     · have e:prE l gs 2 k i=[]:=by unfold prE;rw[hc];rfl
       exact⟨k-(i+1),by omega,_,_,rfl,i+1,wrap_id _ (by omega),by omega,rfl,by rw[hn,e,List.append_nil]⟩
   · have e:i=k:=by omega
     subst e
     exact⟨l.length-(i+1),by omega,_,_,rfl,i+1,wrap_id _ (by omega),by omega,rfl,by rw[range_flat (prI l gs 2) i,←List.append_assoc];rfl⟩
 · have e:k=l.length:=by omega
   subst e
   exact t8_5 R l gs gl h2 h3 hg hl hp _ (by have:=prR_len l gs 2 h2 l.length (Nat.le_refl _);rw[List.length_append];omega) h
theorem ok8:ConOk Tryz.prog (8,con8):=by
 intro args t h hp
 change con8 args=some t at h
 unfold con8 at h
 split at h
 · rename_i l gs gl
   change List TB.den at l
   change List T4.den at gs
   change List TL.den at gl
   cases h
   refine fn_ok envX6 tab_ok mixed Tryz.func8 (by kernel_rfl) (by kernel_rfl) ?_
   rw[f8_run]
   try dsimp only
   have h2:=hp (l.length≤4096) (by simp)
   have hg:=hp (gl.length≤4096) (by simp)
   have hl:=hp (0<l.length) (by simp)
   have hpa:=hp (∀k:Nat,0<k→k<l.length→0≤par6 l k) (by simp)
   clear hp
   rw[blk_eq]
   refine cond_split (fun h => ?_) (fun h => ?_)
   · have hne:¬gs.length=l.length:=by
      intro e
      rw[e] at h
      simp at h
     unfold refJ
     rw[if_neg hne]
     exact⟨rfl,rfl⟩
   · have h3:gs.length=l.length:=by
      have h:((gs.length:Int) != (l.length:Int))=false:=h
      simp at h
      omega
     refine f8_rule1 _ l gs gl (fun n s q=>∃k:Nat,s=k∧k≤gl.length∧n=gl.length-k∧q=(List.range k).flatMap (lnI l gl)) gl.length 0 [] ⟨0,rfl,by omega,rfl,by simp⟩ ?_
     rintro n s q ⟨k,rfl,hk,rfl,rfl⟩
     unfold f8_rhs1
     have hb1:=part_len (lnI l gl) (lnI_len l gl) k
     simp only[blk_eq,Int.toNat_natCast]
     refine dec_split (fun hlt=>⟨by omega,hlt,h2,?_⟩) (fun hlt => ?_)
     · have hn:=range_flat (lnI l gl) k
       refine cond_split (fun hc=>⟨by omega,?_⟩) (fun hc => ?_)
       · have e:lnI l gl k=[(1,(k:Int),-1)]:=by unfold lnI;rw[show (!rightX l (gl.getD k zLn))=true from hc];rfl
         exact⟨gl.length-(k+1),by omega,_,_,rfl,k+1,wrap_id _ (by omega),by omega,rfl,by rw[hn,e]⟩
       · have e:lnI l gl k=[]:=by unfold lnI;rw[show (!rightX l (gl.getD k zLn))=false from hc];rfl
         exact⟨gl.length-(k+1),by omega,_,_,rfl,k+1,wrap_id _ (by omega),by omega,rfl,by rw[hn,e,List.append_nil]⟩
     · have e:k=gl.length:=by omega
       subst e
       refine f8_rule2 _ l gs gl _ (t8_3 _ l gs gl h2 h3 hg hl hpa _ (by omega) ?_)
       unfold refJ
       rw[if_pos h3]
       exact⟨rfl,rfl⟩
 · cases h
end
end Go.Proofs.YtkpjcmiijlpcaaaGreat.W
