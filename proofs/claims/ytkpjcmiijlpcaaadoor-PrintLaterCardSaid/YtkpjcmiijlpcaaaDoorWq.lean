/- The statement PrintLater: what its law comes to. -/
import Derived.Test.YtkpjcmiijlpcaaaDoorSb
import Derived.Test.YtkpjcmiijlpcaaaDoorAwAJ
import Derived.Test.YtkpjcmiijlpcaaaDoorFb
import Derived.Test.YtkpjcmiijlpcaaaDoorFd
import Derived.KernelRfl
import Derived.Test.YtkpjcmiijlpcaaaDoorRows
import Derived.LaidMore
import Derived.LaidLaws
import Derived.LaidHandle
import Derived.MakeChecks
set_option linter.unusedVariables false
set_option linter.unusedSimpArgs false
namespace Go.Proofs.YtkpjcmiijlpcaaaDoor.W
open Go Go.Proofs Go.Proofs.YtkpjcmiijlpcaaaDoor.Aw
noncomputable section
theorem toBytes_size (xs:List Int):(toBytes xs).size=xs.length:=by
 rw[toBytes_mk]
 simp[ByteArray.size]
theorem strAt_toBytes (xs:List Int) (i:Nat) (h:i<xs.length) (hb:∀v∈xs,0≤v∧v<256):strAt (toBytes xs) i=xs.getD i 0:=by
 have hs:i<(toBytes xs).size:=by rw[toBytes_size];exact h
 unfold strAt
 rw[dif_pos hs]
 have:(toBytes xs)[i]=UInt8.ofNat (xs[i]).toNat:=by
  simp only[toBytes_mk]
  simp[ByteArray.getElem_eq_getElem_data]
 rw[this,getD_nat' xs 0 i h]
 have:=hb _ (List.getElem_mem h)
 rw[UInt8.toNat_ofNat']
 omega
theorem hits_app (xs:List Rc4) (m:Rc4) (x y:Int):hits (xs++[m]) x y=hits xs x y++bif hasP m x y then [(xs.length:Int)] else []:=by
 have h:∀k,k≤xs.length→hitsTo (xs++[m]) x y k=hitsTo xs x y k:=by
  intro k
  induction k with
  | zero=>intro _;rfl
  | succ k ih=>
   intro hk
   simp only[hitsTo]
   rw[ih (by omega),getD_nat' _ _ k (by rw[List.length_append];omega),getD_nat' _ _ k hk,List.getElem_append_left]
 unfold hits
 rw[List.length_append,List.length_singleton]
 simp only[hitsTo]
 rw[h _ (Nat.le_refl _),getD_nat' _ _ xs.length (by rw[List.length_append];simp)]
 simp
theorem pic_row (xs:List Rc4) (x y:Int) (j:Nat) (h:j<y.toNat):(pic xs x y).getD j (ByteArray.mk #[])=toBytes (picRow xs (j:Int) x.toNat):=by
 rw[getD_nat' _ _ j (by rw[pic_len];exact h)]
 simp[pic]
theorem picRow_at (xs:List Rc4) (y:Int) (c k:Nat) (h:k<c):(picRow xs y c).getD k 0=sgn (hits xs (k:Int) y):=by
 rw[getD_nat' _ _ k (by rw[picRow_len];exact h)]
 simp[picRow]
theorem sgn_more (l:List Int) (n:Nat):sgn (l++[(n:Int)])=strAt ⟨#[48,49,50,51,52,53,54,55,56,57,97,98,99,100,101,102,103,104,105,106,107,108,109,110,111,112,113,114,115,116,117,118,119,120,121,122]⟩ ((n:Int).tmod 36).toNat:=by
 have h0:0≤(n:Int).tmod 36:=Int.tmod_nonneg _ (by omega)
 have h1:(n:Int).tmod 36<36:=Int.tmod_lt_of_pos _ (by omega)
 have e:(((l++[(n:Int)]).length:Int)==0)=false:=by simp;omega
 unfold sgn
 rw[e,cond_false,show (l++[(n:Int)]).length-1=l.length by simp,getD_nat' _ _ l.length (by simp)]
 have:=strAt_dgt ⟨((n:Int).tmod 36).toNat,by omega⟩
 rw[this]
 simp only[List.getElem_append_right (Nat.le_refl _),Nat.sub_self,List.getElem_cons_zero]
 congr 1<;>omega
def f4_live1:List Nat:=[34,33,32,34,9,9,34,2,3,9,9,0,9,9,5,0,8]
def f4_head1 (xs:List T4.den) (a:Int) (b:Int) (c:Int) (d:Int) (w:Int) (g:Int) (s34:Int) (o3:List (Int×Int×Int×Int)):St:={slots:=[AV.list 30 (KI.pair (KI.pair (KI.pair KI))) xs,AV.undef,AV.int IntKind.u8 w,AV.int IntKind.u8 g,AV.undef,AV.ptr 0 0,AV.undef,AV.undef,AV.bool false,AV.ptr 1 0]++List.replicate 22 AV.undef++[AV.row 2,AV.int .i64 (↑(xs++[(a,b,c,d)]).length:Int),AV.int .i64 s34]++List.replicate 92 AV.undef,obs:=[Ob.cells 30 [AV.int .i64 a,AV.int .i64 b,AV.int .i64 c,AV.int .i64 d],Ob.cells 28 [AV.row 3,AV.row 4],Ob.row 30 (KI.pair (KI.pair (KI.pair KI))) (xs++[(a,b,c,d)]),Ob.row 34 (KI.pair (KI.pair (KI.pair KI))) o3,Ob.row 214 (KI.pair ((KI.pair (KI.pair (KI.pair KI))).pair (KI.pair KI))) []]}
def f4_q1 (R:AV→List Ob→Prop):Ex→St→Prop:=blockA 0 (seqQ tab eG4 (subC [1,1,1,1] (bodyOf Tryd.f4)) [8] (endA tab Tryd.f4 R))
def f4_loop1 (R:AV→List Ob→Prop) (xs:List T4.den) (a:Int) (b:Int) (c:Int) (d:Int) (w:Int) (g:Int) (s34:Int) (o3:List (Int×Int×Int×Int)):Prop:=loopT f4_live1 (codeA tab eG4 (subC [1,1,1,0,1,0,0] (bodyOf Tryd.f4)) f4_live1) (f4_head1 xs a b c d w g s34 o3) (f4_q1 R)
def f4_live2:List Nat:=[80,79,80,14,12,15,12,12,15,5,0,14,80,8]
def f4_head2 (xs:List T4.den) (a:Int) (b:Int) (c:Int) (d:Int) (w:Int) (g:Int) (o3:List (Int×Int×Int×Int)) (s80':Int):St:={slots:=[AV.list 30 (KI.pair (KI.pair (KI.pair KI))) xs]++List.replicate 4 AV.undef++[AV.ptr 0 0,AV.undef,AV.undef,AV.bool false,AV.undef,AV.undef,AV.undef,AV.int .i64 (IntKind.i64.wrap (w.tmod 21)),AV.undef,AV.row 1,AV.row 2]++List.replicate 63 AV.undef++[AV.int .i64 (IntKind.i64.wrap (g.tmod 21)),AV.int .i64 s80']++List.replicate 46 AV.undef,obs:=[Ob.cells 30 [AV.int .i64 a,AV.int .i64 b,AV.int .i64 c,AV.int .i64 d],Ob.row 9 Ty.str (blk (pic o3 (IntKind.i64.wrap (w.tmod 21)) (IntKind.i64.wrap (g.tmod 21)))),Ob.row 9 Ty.str (blk (pic (List.take ((↑xs.length:Int)-0).toNat (List.drop 0 o3)) (IntKind.i64.wrap (w.tmod 21)) (IntKind.i64.wrap (g.tmod 21))))]}
def f4_q2 (R:AV→List Ob→Prop):Ex→St→Prop:=blockA 2 (seqQ tab eG4 (subC [1,1,1,1,1,1,1,1,1,1] (bodyOf Tryd.f4)) [8] (endA tab Tryd.f4 R))
def f4_loop2 (R:AV→List Ob→Prop) (xs:List T4.den) (a:Int) (b:Int) (c:Int) (d:Int) (w:Int) (g:Int) (o3:List (Int×Int×Int×Int)) (s80':Int):Prop:=loopT f4_live2 (codeA tab eG4 (subC [1,1,1,1,1,1,1,1,1,0,1,0,0] (bodyOf Tryd.f4)) f4_live2) (f4_head2 xs a b c d w g o3 s80') (f4_q2 R)
def f4_live3:List Nat:=[100,99,100,15,16,5,16,0,14,16,100,80,80,79,80,14,12,15,12,12,15,5,0,14,80,8]
def f4_head3 (xs:List T4.den) (a:Int) (b:Int) (c:Int) (d:Int) (w:Int) (g:Int) (o3:List (Int×Int×Int×Int)) (s80':Int) (s100'':Int):St:={slots:=[AV.list 30 (KI.pair (KI.pair (KI.pair KI))) xs]++List.replicate 4 AV.undef++[AV.ptr 0 0,AV.undef,AV.undef,AV.bool false,AV.undef,AV.undef,AV.undef,AV.int .i64 (IntKind.i64.wrap (w.tmod 21)),AV.undef,AV.row 1,AV.row 2,AV.int .i64 s80']++List.replicate 62 AV.undef++[AV.int .i64 (IntKind.i64.wrap (g.tmod 21)),AV.int .i64 s80']++List.replicate 18 AV.undef++[AV.int .i64 (IntKind.i64.wrap (w.tmod 21)),AV.int .i64 s100'']++List.replicate 26 AV.undef,obs:=[Ob.cells 30 [AV.int .i64 a,AV.int .i64 b,AV.int .i64 c,AV.int .i64 d],Ob.row 9 Ty.str (blk (pic o3 (IntKind.i64.wrap (w.tmod 21)) (IntKind.i64.wrap (g.tmod 21)))),Ob.row 9 Ty.str (blk (pic (List.take ((↑xs.length:Int)-0).toNat (List.drop 0 o3)) (IntKind.i64.wrap (w.tmod 21)) (IntKind.i64.wrap (g.tmod 21))))]}
def f4_q3 (R:AV→List Ob→Prop) (J1:St→Prop):Ex→St→Prop:=blockA 4 (blockA 3 (seqQ tab eG4 (subC [1,1,1,1,1,1,1,1,1,0,1,0,0,1,1,1] (bodyOf Tryd.f4)) [80,79,80,14,12,15,12,12,15,5,0,14,80,8] (thenA (fun s=>J1 (St.tidy f4_live2 s)) (blockA 2 (seqQ tab eG4 (subC [1,1,1,1,1,1,1,1,1,1] (bodyOf Tryd.f4)) [8] (endA tab Tryd.f4 R))))))
def f4_loop3 (R:AV→List Ob→Prop) (xs:List T4.den) (a:Int) (b:Int) (c:Int) (d:Int) (w:Int) (g:Int) (o3:List (Int×Int×Int×Int)) (s80':Int) (J1:St→Prop) (s100'':Int):Prop:=loopT f4_live3 (codeA tab eG4 (subC [1,1,1,1,1,1,1,1,1,0,1,0,0,1,1,0,0,1,1,1,0,0] (bodyOf Tryd.f4)) f4_live3) (f4_head3 xs a b c d w g o3 s80' s100'') (f4_q3 R J1)
set_option maxHeartbeats 2000000 in
def f4_rhs3 (R:AV→List Ob→Prop) (xs:List T4.den) (a:Int) (b:Int) (c:Int) (d:Int) (w:Int) (g:Int) (o3:List (Int×Int×Int×Int)) (s80':Int) (J1:St→Prop) (J2:St→Prop) (s100'':Int):Prop:=bif decide (s100''<IntKind.i64.wrap (w.tmod 21)) then 0≤s80'∧s80'<(↑(blk (pic (List.take ((↑xs.length:Int)-0).toNat (List.drop 0 o3)) (IntKind.i64.wrap (w.tmod 21)) (IntKind.i64.wrap (g.tmod 21)))).length:Int)∧0≤s100''∧s100''<(↑(ByteArray.size ((blk (pic (List.take ((↑xs.length:Int)-0).toNat (List.drop 0 o3)) (IntKind.i64.wrap (w.tmod 21)) (IntKind.i64.wrap (g.tmod 21)))).getD s80'.toNat (ByteArray.mk #[]))):Int)∧bif hasP (a,b,c,d) s100'' s80' then (36:Int)≠0∧0≤(↑xs.length:Int).tmod 36∧(↑xs.length:Int).tmod 36<36∧0≤s80'∧s80'<(↑(blk (pic o3 (IntKind.i64.wrap (w.tmod 21)) (IntKind.i64.wrap (g.tmod 21)))).length:Int)∧0≤s100''∧s100''<(↑(ByteArray.size ((blk (pic o3 (IntKind.i64.wrap (w.tmod 21)) (IntKind.i64.wrap (g.tmod 21)))).getD s80'.toNat (ByteArray.mk #[]))):Int)∧bif strAt ((blk (pic o3 (IntKind.i64.wrap (w.tmod 21)) (IntKind.i64.wrap (g.tmod 21)))).getD s80'.toNat (ByteArray.mk #[])) s100''.toNat != strAt (ByteArray.mk #[48,49,50,51,52,53,54,55,56,57,97,98,99,100,101,102,103,104,105,106,107,108,109,110,111,112,113,114,115,116,117,118,119,120,121,122]) ((↑xs.length:Int).tmod 36).toNat then R (AV.bool false) [] else J2 (f4_head3 xs a b c d w g o3 s80' (IntKind.i64.wrap (s100''+1))) else 0≤s80'∧s80'<(↑(blk (pic o3 (IntKind.i64.wrap (w.tmod 21)) (IntKind.i64.wrap (g.tmod 21)))).length:Int)∧0≤s100''∧s100''<(↑(ByteArray.size ((blk (pic o3 (IntKind.i64.wrap (w.tmod 21)) (IntKind.i64.wrap (g.tmod 21)))).getD s80'.toNat (ByteArray.mk #[]))):Int)∧bif strAt ((blk (pic o3 (IntKind.i64.wrap (w.tmod 21)) (IntKind.i64.wrap (g.tmod 21)))).getD s80'.toNat (ByteArray.mk #[])) s100''.toNat != strAt ((blk (pic (List.take ((↑xs.length:Int)-0).toNat (List.drop 0 o3)) (IntKind.i64.wrap (w.tmod 21)) (IntKind.i64.wrap (g.tmod 21)))).getD s80'.toNat (ByteArray.mk #[])) s100''.toNat then R (AV.bool false) [] else J2 (f4_head3 xs a b c d w g o3 s80' (IntKind.i64.wrap (s100''+1))) else J1 (f4_head2 xs a b c d w g o3 (IntKind.i64.wrap (s80'+1)))
theorem f4_eq3 (R:AV→List Ob→Prop) (xs:List T4.den) (a:Int) (b:Int) (c:Int) (d:Int) (w:Int) (g:Int) (o3:List (Int×Int×Int×Int)) (s80':Int) (J1:St→Prop) (J2:St→Prop) (s100'':Int):codeA tab eG4 (subC [1,1,1,1,1,1,1,1,1,0,1,0,0,1,1,0,0,1,1,1,0,0] (bodyOf Tryd.f4)) f4_live3 (f4_head3 xs a b c d w g o3 s80' s100'') (thenA (fun s=>J2 (St.tidy f4_live3 s)) (f4_q3 R J1))=f4_rhs3 R xs a b c d w g o3 s80' J1 J2 s100'':=by kernel_rfl
set_option maxHeartbeats 2000000 in
theorem f4_rule3 (R:AV→List Ob→Prop) (xs:List T4.den) (a:Int) (b:Int) (c:Int) (d:Int) (w:Int) (g:Int) (o3:List (Int×Int×Int×Int)) (s80':Int) (J1:St→Prop) (I:Nat→(Int)→Prop) (n:Nat) (s100'':Int) (h0:I n s100'') (h:∀n,∀(s100'':Int),I n s100''→f4_rhs3 R xs a b c d w g o3 s80' J1 (fun t=>∃m,m<n∧∃(s100'':Int),t=f4_head3 xs a b c d w g o3 s80' s100''∧I m s100'') s100''):f4_loop3 R xs a b c d w g o3 s80' J1 s100'':=
 loop_intro (fun n t=>∃(s100'':Int),t=f4_head3 xs a b c d w g o3 s80' s100''∧I n s100'') n ⟨s100'',rfl,h0⟩ (fun n t ht=>by obtain⟨s100'',rfl,hI⟩:=ht;exact Eq.mpr (f4_eq3 R xs a b c d w g o3 s80' J1 (fun t=>∃m,m<n∧∃(s100'':Int),t=f4_head3 xs a b c d w g o3 s80' s100''∧I m s100'') s100'') (h n s100'' hI))
def f4_rhs2 (R:AV→List Ob→Prop) (xs:List T4.den) (a:Int) (b:Int) (c:Int) (d:Int) (w:Int) (g:Int) (o3:List (Int×Int×Int×Int)) (J1:St→Prop) (s80':Int):Prop:=bif decide (s80'<IntKind.i64.wrap (g.tmod 21)) then 0≤s80'∧s80'<(↑(blk (pic o3 (IntKind.i64.wrap (w.tmod 21)) (IntKind.i64.wrap (g.tmod 21)))).length:Int)∧bif !(↑(ByteArray.size ((blk (pic o3 (IntKind.i64.wrap (w.tmod 21)) (IntKind.i64.wrap (g.tmod 21)))).getD s80'.toNat (ByteArray.mk #[]))):Int) != IntKind.i64.wrap (w.tmod 21) then 0≤s80'∧s80'<(↑(blk (pic (List.take ((↑xs.length:Int)-0).toNat (List.drop 0 o3)) (IntKind.i64.wrap (w.tmod 21)) (IntKind.i64.wrap (g.tmod 21)))).length:Int)∧bif (↑(ByteArray.size ((blk (pic (List.take ((↑xs.length:Int)-0).toNat (List.drop 0 o3)) (IntKind.i64.wrap (w.tmod 21)) (IntKind.i64.wrap (g.tmod 21)))).getD s80'.toNat (ByteArray.mk #[]))):Int) != IntKind.i64.wrap (w.tmod 21) then R (AV.bool false) [] else f4_loop3 R xs a b c d w g o3 s80' J1 0 else R (AV.bool false) [] else R (AV.bool true) []
theorem f4_eq2 (R:AV→List Ob→Prop) (xs:List T4.den) (a:Int) (b:Int) (c:Int) (d:Int) (w:Int) (g:Int) (o3:List (Int×Int×Int×Int)) (J1:St→Prop) (s80':Int):codeA tab eG4 (subC [1,1,1,1,1,1,1,1,1,0,1,0,0] (bodyOf Tryd.f4)) f4_live2 (f4_head2 xs a b c d w g o3 s80') (thenA (fun s=>J1 (St.tidy f4_live2 s)) (f4_q2 R))=f4_rhs2 R xs a b c d w g o3 J1 s80':=by kernel_rfl
set_option maxHeartbeats 2000000 in
theorem f4_rule2 (R:AV→List Ob→Prop) (xs:List T4.den) (a:Int) (b:Int) (c:Int) (d:Int) (w:Int) (g:Int) (o3:List (Int×Int×Int×Int)) (I:Nat→(Int)→Prop) (n:Nat) (s80':Int) (h0:I n s80') (h:∀n,∀(s80':Int),I n s80'→f4_rhs2 R xs a b c d w g o3 (fun t=>∃m,m<n∧∃(s80':Int),t=f4_head2 xs a b c d w g o3 s80'∧I m s80') s80'):f4_loop2 R xs a b c d w g o3 s80':=
 loop_intro (fun n t=>∃(s80':Int),t=f4_head2 xs a b c d w g o3 s80'∧I n s80') n ⟨s80',rfl,h0⟩ (fun n t ht=>by obtain⟨s80',rfl,hI⟩:=ht;exact Eq.mpr (f4_eq2 R xs a b c d w g o3 (fun t=>∃m,m<n∧∃(s80':Int),t=f4_head2 xs a b c d w g o3 s80'∧I m s80') s80') (h n s80' hI))
set_option maxHeartbeats 2000000 in
def f4_rhs1 (R:AV→List Ob→Prop) (xs:List T4.den) (a:Int) (b:Int) (c:Int) (d:Int) (w:Int) (g:Int) (J:St→Prop) (s34:Int) (o3:List (Int×Int×Int×Int)):Prop:=bif decide (s34<(↑(xs++[(a,b,c,d)]).length:Int)) then 0≤s34∧s34<(↑(xs++[(a,b,c,d)]).length:Int)∧(0:Int)≤0∧(0:Int)≤4∧(4:Int)≤4∧(4:Int)≤4∧Nat.le 4 9223372036854775807∧bif !small [((xs++[(a,b,c,d)]).getD s34.toNat (0,0,0,0)).fst,((xs++[(a,b,c,d)]).getD s34.toNat (0,0,0,0)).snd.fst,((xs++[(a,b,c,d)]).getD s34.toNat (0,0,0,0)).snd.snd.fst,((xs++[(a,b,c,d)]).getD s34.toNat (0,0,0,0)).snd.snd.snd] then R (AV.bool true) [] else (o3.length+1)*32≤140737488355328∧J (f4_head1 xs a b c d w g (IntKind.i64.wrap (s34+1)) (o3++[(((xs++[(a,b,c,d)]).getD s34.toNat (0,0,0,0)).fst,((xs++[(a,b,c,d)]).getD s34.toNat (0,0,0,0)).snd.fst,((xs++[(a,b,c,d)]).getD s34.toNat (0,0,0,0)).snd.snd.fst,((xs++[(a,b,c,d)]).getD s34.toNat (0,0,0,0)).snd.snd.snd)])) else (21:Int)≠0∧(21:Int)≠0∧o3.length≤4096∧o3.all smR=true∧IntKind.i64.wrap (w.tmod 21)≤4096∧IntKind.i64.wrap (g.tmod 21)≤4096∧(0:Int)≤0∧0≤(↑xs.length:Int)∧(↑xs.length:Int)≤(↑o3.length:Int)∧(List.take ((↑xs.length:Int)-0).toNat (List.drop 0 o3)).length≤4096∧(List.take ((↑xs.length:Int)-0).toNat (List.drop 0 o3)).all smR=true∧IntKind.i64.wrap (w.tmod 21)≤4096∧IntKind.i64.wrap (g.tmod 21)≤4096∧bif !(↑(blk (pic o3 (IntKind.i64.wrap (w.tmod 21)) (IntKind.i64.wrap (g.tmod 21)))).length:Int) != IntKind.i64.wrap (g.tmod 21) then bif (↑(blk (pic (List.take ((↑xs.length:Int)-0).toNat (List.drop 0 o3)) (IntKind.i64.wrap (w.tmod 21)) (IntKind.i64.wrap (g.tmod 21)))).length:Int) != IntKind.i64.wrap (g.tmod 21) then R (AV.bool false) [] else f4_loop2 R xs a b c d w g o3 0 else R (AV.bool false) []
theorem f4_eq1 (R:AV→List Ob→Prop) (xs:List T4.den) (a:Int) (b:Int) (c:Int) (d:Int) (w:Int) (g:Int) (J:St→Prop) (s34:Int) (o3:List (Int×Int×Int×Int)):codeA tab eG4 (subC [1,1,1,0,1,0,0] (bodyOf Tryd.f4)) f4_live1 (f4_head1 xs a b c d w g s34 o3) (thenA (fun s=>J (St.tidy f4_live1 s)) (f4_q1 R))=f4_rhs1 R xs a b c d w g J s34 o3:=by kernel_rfl
set_option maxHeartbeats 2000000 in
theorem f4_rule1 (R:AV→List Ob→Prop) (xs:List T4.den) (a:Int) (b:Int) (c:Int) (d:Int) (w:Int) (g:Int) (I:Nat→(Int)→(List (Int×Int×Int×Int))→Prop) (n:Nat) (s34:Int) (o3:List (Int×Int×Int×Int)) (h0:I n s34 o3) (h:∀n,∀(s34:Int) (o3:List (Int×Int×Int×Int)),I n s34 o3→f4_rhs1 R xs a b c d w g (fun t=>∃m,m<n∧∃(s34:Int) (o3:List (Int×Int×Int×Int)),t=f4_head1 xs a b c d w g s34 o3∧I m s34 o3) s34 o3):f4_loop1 R xs a b c d w g s34 o3:=
 loop_intro (fun n t=>∃(s34:Int) (o3:List (Int×Int×Int×Int)),t=f4_head1 xs a b c d w g s34 o3∧I n s34 o3) n ⟨s34,o3,rfl,h0⟩ (fun n t ht=>by obtain⟨s34,o3,rfl,hI⟩:=ht;exact Eq.mpr (f4_eq1 R xs a b c d w g (fun t=>∃m,m<n∧∃(s34:Int) (o3:List (Int×Int×Int×Int)),t=f4_head1 xs a b c d w g s34 o3∧I m s34 o3) s34 o3) (h n s34 o3 hI))
theorem f4_run (R:AV→List Ob→Prop) (xs:List T4.den) (a b c d w g:Int):fnA tab eG4 Tryd.f4 (bodyOf Tryd.f4) [.list 30 T4 xs,.agg (.cons (.int .i64 a) (.cons (.int .i64 b) (.cons (.int .i64 c) (.cons (.int .i64 d) .nl)))),.int .u8 w,.int .u8 g] R=(bif decide ((↑xs.length:Int)>30) then R (AV.bool true) [] else (0+xs.length)*32≤140737488355328∧(xs.length+1)*32≤140737488355328∧f4_loop1 R xs a b c d w g 0 []):=by kernel_rfl
theorem u8_of (n:Int) (h:(Lit.int .u8 n).wf=true):0≤n∧n≤255:=by
 simp[Lit.wf,IntKind.min,IntKind.max,IntKind.signed,IntKind.bits] at h
 omega
theorem bne_no {α:Type} [BEq α] [LawfulBEq α] {a b:α} (h:a=b):(a != b)=false:=by subst h;simp
theorem law4' (xs:List Rc4) (a b c d w g:Int) (hw:0≤w∧w≤255) (hg:0≤g∧g≤255) :
 ACalls Tryd.prog 4 [.list 30 T4 xs,.agg (.cons (.int .i64 a) (.cons (.int .i64 b) (.cons (.int .i64 c) (.cons (.int .i64 d) .nl)))),.int .u8 w,.int .u8 g] (.bool true) []:=by
 refine fn_ok envG4 tab_ok mixed Tryd.func4 (by kernel_rfl) (by kernel_rfl) ?_
 rw[f4_run]
 refine dec_split (fun h1=>⟨rfl,rfl⟩) (fun h1=>⟨by omega,by omega,?_⟩)
 have hl:xs.length≤30:=by omega
 obtain⟨ys,hys⟩:∃ys:List Rc4,ys=xs++[(a,b,c,d)]:=⟨_,rfl⟩
 have hyl:ys.length=xs.length+1:=by rw[hys,List.length_append];rfl
 obtain⟨u,eu⟩:∃u,u=w.tmod 21:=⟨_,rfl⟩
 obtain⟨v,ev⟩:∃v,v=g.tmod 21:=⟨_,rfl⟩
 have hu:0≤u∧u<21:=by rw[eu];exact⟨Int.tmod_nonneg _ hw.1,Int.tmod_lt_of_pos _ (by omega)⟩
 have hv:0≤v∧v<21:=by rw[ev];exact⟨Int.tmod_nonneg _ hg.1,Int.tmod_lt_of_pos _ (by omega)⟩
 have ewu:IntKind.wrap .i64 (w.tmod 21)=u:=by rw[←eu];exact wrap_id _ (by omega)
 have egv:IntKind.wrap .i64 (g.tmod 21)=v:=by rw[←ev];exact wrap_id _ (by omega)
 have et:List.take ((xs.length:Int)-0).toNat (List.drop 0 ys)=xs:=by rw[hys];simp
 have hu2:((u.toNat:Int) != u)=false:=bne_no (by omega)
 have hv2:((v.toNat:Int) != v)=false:=bne_no (by omega)
 refine f4_rule1 _ xs a b c d w g (fun n i o=>∃k:Nat,k≤ys.length∧n=ys.length-k∧i=k∧o=ys.take k∧(ys.take k).all smR=true) ys.length 0 [] ⟨0,by omega,by simp,rfl,by simp,by simp⟩ ?_
 rintro n i o ⟨k,hk,rfl,rfl,rfl,hall⟩
 unfold f4_rhs1
 rw[←hys]
 refine dec_split (fun hlt=>⟨by omega,hlt,by decide,by decide,by decide,by decide,by show 4≤9223372036854775807;omega,?_⟩) (fun hlt => ?_)
 · have hlt':k<ys.length:=by omega
   refine cond_split (fun hs=>⟨rfl,rfl⟩) (fun hs=>⟨by rw[List.length_take];omega,?_⟩)
   have hs:smR ys[k]=true:=by rw[getD_nat ys _ k hlt'] at hs;simpa [smR] using hs
   refine⟨ys.length-(k+1),by omega,_,_,rfl,k+1,by omega,rfl,wrap_next k _ hlt' (by simp only[maxLen];omega),step4 ys k hlt',?_⟩
   rw[take_next ys k hlt',List.all_append,hall]
   simp[hs]
 rw[take_all ys k (by omega)] at hall ⊢
 have hallx:xs.all smR=true:=by rw[hys,List.all_append,Bool.and_eq_true] at hall;exact hall.1
 simp only[ewu,egv,et,blk_eq,pic_len,hv2]
 refine⟨by decide,by decide,by omega,hall,by omega,by omega,by decide,by omega,by omega,by omega,hallx,by omega,by omega,?_⟩
 show f4_loop2 _ xs a b c d w g ys 0
 refine f4_rule2 _ xs a b c d w g ys (fun n i=>∃j:Nat,j≤v.toNat∧n=v.toNat-j∧i=j) v.toNat 0 ⟨0,by omega,by simp,rfl⟩ ?_
 rintro n i ⟨j,hj,rfl,rfl⟩
 unfold f4_rhs2
 simp only[ewu,egv,et,blk_eq,pic_len]
 refine dec_split (fun hlt => ?_) (fun hlt=>by simp)
 have hj':j<v.toNat:=by omega
 simp only[Int.toNat_natCast,pic_row _ _ _ j hj',toBytes_size,picRow_len,hu2]
 refine⟨by omega,by omega,?_⟩
 show 0≤(j:Int)∧(j:Int)<(v.toNat:Int)∧f4_loop3 _ xs a b c d w g ys j _ 0
 refine⟨by omega,by omega,?_⟩
 refine f4_rule3 _ xs a b c d w g ys j _ (fun n i=>∃k:Nat,k≤u.toNat∧n=u.toNat-k∧i=k) u.toNat 0 ⟨0,by omega,by simp,rfl⟩ ?_
 rintro n i ⟨k,hk,rfl,rfl⟩
 unfold f4_rhs3
 simp only[ewu,egv,et,blk_eq,pic_len]
 refine dec_split (fun hlt2 => ?_) (fun hlt2=>⟨v.toNat-(j+1),by omega,_,rfl,j+1,by omega,rfl,wrap_next j v.toNat hj' (by simp only[maxLen];omega)⟩)
 have hk':k<u.toNat:=by omega
 have hat:∀zs:List Rc4,strAt (toBytes (picRow zs (j:Int) u.toNat)) k=sgn (hits zs (k:Int) (j:Int)):=fun zs=>by
  rw[strAt_toBytes _ k (by rw[picRow_len];exact hk') (picRow_bd zs _ _),picRow_at zs _ _ k hk']
 simp only[Int.toNat_natCast,pic_row _ _ _ j hj',toBytes_size,picRow_len,hat]
 have hnext:∃m,m<u.toNat-k∧∃i:Int,f4_head3 xs a b c d w g ys (j:Int) (IntKind.wrap .i64 ((k:Int)+1))=f4_head3 xs a b c d w g ys (j:Int) i∧∃k:Nat,k≤u.toNat∧m=u.toNat-k∧i=k:=
  ⟨u.toNat-(k+1),by omega,_,rfl,k+1,by omega,rfl,wrap_next k u.toNat hk' (by simp only[maxLen];omega)⟩
 have ht0:0≤(xs.length:Int).tmod 36:=Int.tmod_nonneg _ (by omega)
 have ht1:(xs.length:Int).tmod 36<36:=Int.tmod_lt_of_pos _ (by omega)
 refine⟨by omega,by omega,by omega,by omega,cond_split (fun hh=>⟨by decide,ht0,ht1,by omega,by omega,by omega,by omega,cond_no (bne_no ?_) hnext⟩) (fun hh=>⟨by omega,by omega,by omega,by omega,cond_no (bne_no ?_) hnext⟩)⟩
 · rw[hys,hits_app,hh,cond_true,sgn_more]
 · rw[hys,hits_app,hh,cond_false,List.append_nil]
theorem law4 (x:ArgsDen [(false,.list 30 T4),(true,T4),(false,.int .u8),(false,.int .u8)]) (h:OkArgs [(false,.list 30 T4),(true,T4),(false,.int .u8),(false,.int .u8)] x):ACalls Tryd.prog 4 (argsA [(false,.list 30 T4),(true,T4),(false,.int .u8),(false,.int .u8)] x) (.bool true) []:=by
 obtain⟨xs,⟨a,b,c,d⟩,w,g,_⟩:=x
 obtain⟨_,_,h2,h3,_⟩:=h
 exact law4' xs a b c d w g (u8_of w h2) (u8_of g h3)
end
end Go.Proofs.YtkpjcmiijlpcaaaDoor.W
set_option linter.unusedVariables false
set_option linter.unusedSimpArgs false
namespace Go.Proofs.YtkpjcmiijlpcaaaDoor.W
open Go Go.Proofs Go.Proofs.YtkpjcmiijlpcaaaDoor.Aw Go.ChangeShapes Go.WideShapes Go.ChangeAt Go.RowKit
abbrev laid1:List (String×DataW Unit):=[("runaround/print.names",Rows.laid_runaround_print_names)]
theorem gNames:Tryd.prog.globalNamed "runaround/print.names" = some 0:=by kernel_rfl
theorem tNames:(Tryd.prog.globals[0]?).map (·.type)=some 66:=by kernel_rfl
theorem str_list {s:ByteArray} {l:List UInt8} (h:s.data.toList=l):s=⟨l.toArray⟩:=by
 apply ByteArray.ext
 apply Array.toList_inj.1
 simpa using h
theorem str_cell {P:Program} {w:World} {m:Nat} {sp:Nat→Bool} {cs:List Value} {y:DataW Unit×List MemPlace} {l:List UInt8} (ht:P.underlying 9=some .string) (h:DataW.trod (fun _=>()) P w 0 sp false m 9 cs=some y) (hy:y.1=.lit (.string l)):cs=[.string ⟨l.toArray⟩]:=by
 obtain⟨s,e1,e2,_⟩:=DataW.trod_string ht h
 rw[e2] at hy
 simp only[DataW.lit.injEq,Lit.string.injEq] at hy
 rw[e1,str_list hy]
set_option maxRecDepth 20000 in
theorem names_cells {W:World} (h:laidMetH Tryd.prog laid1 W):∃fr:Nat×Nat,W.heap[0]? = some (.cells #[.string ⟨#[]⟩,.string ⟨#[98,108,111,99,107]⟩,.string ⟨#[102,108,111,97,116]⟩,.string ⟨#[114,111,111,116]⟩,.string ⟨#[116,101,120,116]⟩,.string ⟨#[97,116,111,109]⟩] 66 fr)∨∀j:Nat,W.cell? ⟨0,j,none⟩=(#[Value.string ⟨#[]⟩,.string ⟨#[98,108,111,99,107]⟩,.string ⟨#[102,108,111,97,116]⟩,.string ⟨#[114,111,111,116]⟩,.string ⟨#[116,101,120,116]⟩,.string ⟨#[97,116,111,109]⟩]:Array Value)[j]? := by
 rw[MakeChecks.laidMetH_plain _ _ _ (by kernel_rfl)] at h
 obtain⟨ps,⟨g0,t0,cs0,f0,p0,q0,hg0,ht0,hv0,hd0,_,_⟩,_,_⟩:=h
 obtain rfl:=Option.some.inj (gNames.symm.trans hg0)
 obtain rfl:=Option.some.inj (tNames.symm.trans ht0)
 obtain⟨xs,m1,rfl,hx1,hlen,hn,hel⟩:=DataW.trod_array Tryd.underlying66 hd0
 have c9:Tryd.prog.cellsOf 9=1:=by kernel_rfl
 have c66:Tryd.prog.cellsOf 66=6:=by kernel_rfl
 rw[c66] at hlen
 simp only[Prod.mk.injEq] at hx1
 have hx:=hx1.1
 unfold Rows.laid_runaround_print_names at hx
 simp only[DataW.agg.injEq] at hx
 match xs,hn,hx,hel with
 | [x0,x1,x2,x3,x4,x5],_,hx,hel=>
  simp only[List.map_cons,List.map_nil,List.cons.injEq,and_true] at hx
  obtain⟨y0,y1,y2,y3,y4,y5⟩:=hx
  rw[c9] at hel
  have k0:=str_cell Tryd.underlying9 (hel 0 (by decide)) y0.symm
  have k1:=str_cell Tryd.underlying9 (hel 1 (by decide)) y1.symm
  have k2:=str_cell Tryd.underlying9 (hel 2 (by decide)) y2.symm
  have k3:=str_cell Tryd.underlying9 (hel 3 (by decide)) y3.symm
  have k4:=str_cell Tryd.underlying9 (hel 4 (by decide)) y4.symm
  have k5:=str_cell Tryd.underlying9 (hel 5 (by decide)) y5.symm
  refine⟨(0,0),.inr fun j => ?_⟩
  rw[World.var?_cell hg0 hv0 j]
  obtain⟨l⟩:=cs0
  match l,hlen with
  | [c0,c1,c2,c3,c4,c5],_=>
   simp at k0 k1 k2 k3 k4 k5
   rw[k0,k1,k2,k3,k4,k5]
theorem gl_of {W:World} (h:laidMetH Tryd.prog laid1 W):GL (allOf W) W:=by
 obtain⟨_,h⟩:=names_cells h
 have hc:∀j:Nat,W.cell? ⟨0,j,none⟩=(#[Value.string ⟨#[]⟩,.string ⟨#[98,108,111,99,107]⟩,.string ⟨#[102,108,111,97,116]⟩,.string ⟨#[114,111,111,116]⟩,.string ⟨#[116,101,120,116]⟩,.string ⟨#[97,116,111,109]⟩]:Array Value)[j]? := by
  rcases h with h | h
  · intro j;simp[World.cell?,h]
  · exact h
 have h0:0<W.heap.size:=by
  have:=hc 0
  simp only[World.cell?] at this
  split at this
  · rename_i h;exact (Array.getElem?_eq_some_iff.1 h).1
  · simp at this
 intro g
 unfold globT
 split
 · refine⟨Int.le_refl 0,by decide,⟨0,0,none⟩,[.string ⟨#[]⟩,.string ⟨#[98,108,111,99,107]⟩,.string ⟨#[102,108,111,97,116]⟩,.string ⟨#[114,111,111,116]⟩,.string ⟨#[116,101,120,116]⟩,.string ⟨#[97,116,111,109]⟩],?_,fun j u hj=>⟨_,rfl,h0,?_⟩,rfl⟩
   · exact⟨_,[],rfl,⟨[_],_,rfl,rfl,[_],_,rfl,rfl,[_],_,rfl,rfl,[_],_,rfl,rfl,[_],_,rfl,rfl,rfl⟩,rfl⟩
   · rw[add_lit,Nat.zero_add,hc j]
     simpa using hj
 · trivial
theorem door_met (os:Os) (args:Array Value):laidMetH Tryd.prog laid1 ((World.doorLaid Tryd.prog 400 os).forCall (fun _ _=>0) ⟨#[],args,[]⟩).memory:=
 laidMetH_of_parts3 (fuel:=8) (laidMet_of_run' 8 (by kernel_rfl) (by kernel_rfl)) (by kernel_rfl) (by kernel_rfl)
end Go.Proofs.YtkpjcmiijlpcaaaDoor.W
