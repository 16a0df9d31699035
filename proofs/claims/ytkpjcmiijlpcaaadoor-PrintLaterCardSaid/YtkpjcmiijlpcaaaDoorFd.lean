/- Layers 21 and 22 (hit, print): what is at a point, and pictures. -/
import Derived.Test.YtkpjcmiijlpcaaaDoorSb
import Derived.Test.YtkpjcmiijlpcaaaDoorAwAJ
import Derived.Test.YtkpjcmiijlpcaaaDoorFb
import Derived.KernelRfl
set_option linter.unusedVariables false
set_option linter.unusedSimpArgs false
namespace Go.Proofs.YtkpjcmiijlpcaaaDoor.W
open Go Go.Proofs Go.Proofs.YtkpjcmiijlpcaaaDoor.Aw
noncomputable section
def colHas (r:Rc4) (x:Int):Bool:=decide (r.1≤x)&&decide (x<r.2.2.1)
def posAt (rs:List Int) (y:Int):Int:=bif fnd rs y then (lb rs y:Int) else (lb rs y:Int)-1
def atAll (rs:List Int) (bs:List (List Int)) (xs:List Rc4) (x y:Int):List Int:=bif decide (posAt rs y<0) then [] else (bs.getD (posAt rs y).toNat []).filter fun i=>colHas (xs.getD i.toNat (0,0,0,0)) x
theorem flt1 (p:Int→Bool) (a:Int):[a].filter p=bif p a then [a] else []:=by
 cases h:p a<;>simp[h]
def consG0:Cons:=(18,con18)::consE0
def twosG0:Cons2:=twosE0
def pansG0:Cons3:=pansE0
def itersG0:Cons4:=itersE0
abbrev eG0:Env:=envOf4 consG0 twosG0 pansG0 itersG0
theorem allconsG0:∀c∈consG0,ConOk Tryd.prog c:=all_cons ok18 allconsE0
theorem alltwosG0:∀c∈twosG0,ConOk2 Tryd.prog c:=alltwosE0
theorem allpansG0:∀c∈pansG0,ConOk3 Tryd.prog c:=allpansE0
theorem allitersG0:∀c∈itersG0,ConOk4 Tryd.prog c:=allitersE0
theorem envG0:EnvOk Tryd.prog eG0:=envOf4_ok _ _ _ _ allconsG0 alltwosG0 allpansG0 allitersG0
def con19:List AV→Option Tells
 | [.lptr 74 (.pair (.list 3 (.int .i64)) (.pair (.list 32 (.list 3 (.int .i64))) (.list 34 (.pair (.int .i64) (.pair (.int .i64) (.pair (.int .i64) (.int .i64))))))) [(rs,bs,xs)] 0 0,.int .i64 x,.int .i64 y]=>some ⟨[rs.length≤1099511627776,rs.Pairwise (· ≤ ·),bs.length=rs.length,xs.length≤4096,∀b∈bs,b.length≤4096∧∀i∈b,0≤i∧i<(xs.length:Int)],.list 3 (.int .i64) (atAll rs bs xs x y),[]⟩
 | _=>none
def f19_cuts:List Nat:=[5,13]
def f19_j1 (R:AV→List Ob→Prop) (rs:List Int) (bs:List (List Int)) (xs:List T4.den) (x:Int) (s7_1:Int):Prop:=Meet (fun s=>codeA tab (eG0.cut f19_cuts) (subC [1,1,1] (bodyOf Tryd.f19)) [6] s (endA tab Tryd.f19 R)) {slots:=[AV.lptr 74 ((Ty.list 3 KI).pair ((Ty.list 32 (Ty.list 3 KI)).pair (Ty.list 34 (KI.pair (KI.pair (KI.pair KI)))))) [(rs,bs,xs)] 0 0,AV.int .i64 x]++List.replicate 4 AV.undef++[AV.row 0,AV.int .i64 s7_1]++List.replicate 48 AV.undef,obs:=[Ob.row 3 KI []]}
def f19_live2:List Nat:=[36,35,34,36,0,1,9,36,9,6]
def f19_head2 (rs:List Int) (bs:List (List Int)) (xs:List T4.den) (x:Int) (s7_1:Int) (s36:Int) (o1:List Int):St:={slots:=[AV.lptr 74 ((Ty.list 3 KI).pair ((Ty.list 32 (Ty.list 3 KI)).pair (Ty.list 34 (KI.pair (KI.pair (KI.pair KI)))))) [(rs,bs,xs)] 0 0,AV.int .i64 x]++List.replicate 4 AV.undef++[AV.row 0,AV.undef,AV.undef,AV.row 1]++List.replicate 24 AV.undef++[AV.list 3 KI (bs.getD s7_1.toNat []),AV.int .i64 (↑(List.length (bs.getD s7_1.toNat [])):Int),AV.int .i64 s36]++List.replicate 19 AV.undef,obs:=[Ob.row 3 KI [],Ob.row 3 KI o1]}
def f19_q2 (R:AV→List Ob→Prop):Ex→St→Prop:=blockA 0 (seqQ tab (eG0.cut f19_cuts) (subC [1,1,1,1,1,1] (bodyOf Tryd.f19)) [6] (endA tab Tryd.f19 R))
def f19_loop2 (R:AV→List Ob→Prop) (rs:List Int) (bs:List (List Int)) (xs:List T4.den) (x:Int) (s7_1:Int) (s36:Int) (o1:List Int):Prop:=loopT f19_live2 (codeA tab (eG0.cut f19_cuts) (subC [1,1,1,1,1,0,1,0,0] (bodyOf Tryd.f19)) f19_live2) (f19_head2 rs bs xs x s7_1 s36 o1) (f19_q2 R)
def f19_j3 (R:AV→List Ob→Prop) (rs:List Int) (bs:List (List Int)) (xs:List T4.den) (x:Int) (s7_1:Int) (s36:Int) (J:St→Prop) (o1'_3:List Int):Prop:=Meet (fun s=>codeA tab (eG0.cut f19_cuts) (subC [1,1,1,1,1,0,1,0,0,1,1,1] (bodyOf Tryd.f19)) [36,35,34,36,0,1,9,36,9,6] s (thenA (fun s=>J (St.tidy f19_live2 s)) (blockA 0 (seqQ tab (eG0.cut f19_cuts) (subC [1,1,1,1,1,1] (bodyOf Tryd.f19)) [6] (endA tab Tryd.f19 R))))) {slots:=[AV.lptr 74 ((Ty.list 3 KI).pair ((Ty.list 32 (Ty.list 3 KI)).pair (Ty.list 34 (KI.pair (KI.pair (KI.pair KI)))))) [(rs,bs,xs)] 0 0,AV.int .i64 x]++List.replicate 4 AV.undef++[AV.row 0,AV.undef,AV.undef,AV.row 1]++List.replicate 24 AV.undef++[AV.list 3 KI (bs.getD s7_1.toNat []),AV.int .i64 (↑(List.length (bs.getD s7_1.toNat [])):Int),AV.int .i64 s36]++List.replicate 19 AV.undef,obs:=[Ob.row 3 KI [],Ob.row 3 KI o1'_3]}
theorem f19_jeq3 (R:AV→List Ob→Prop) (rs:List Int) (bs:List (List Int)) (xs:List T4.den) (x:Int) (s7_1:Int) (s36:Int) (J:St→Prop) (o1'_3:List Int):f19_j3 R rs bs xs x s7_1 s36 J o1'_3=(J (f19_head2 rs bs xs x s7_1 (IntKind.i64.wrap (s36+1)) o1'_3)):=(meet_eq _ _).trans (by kernel_rfl)
def f19_rhs2 (R:AV→List Ob→Prop) (rs:List Int) (bs:List (List Int)) (xs:List T4.den) (x:Int) (s7_1:Int) (J:St→Prop) (s36:Int) (o1:List Int):Prop:=bif decide (s36<(↑(List.length (bs.getD s7_1.toNat [])):Int)) then 0≤s36∧s36<(↑(List.length (bs.getD s7_1.toNat [])):Int)∧0≤List.getD (bs.getD s7_1.toNat []) s36.toNat 0∧List.getD (bs.getD s7_1.toNat []) s36.toNat 0<(↑xs.length:Int)∧bif decide ((xs.getD (Int.toNat (List.getD (bs.getD s7_1.toNat []) s36.toNat 0)) (0,0,0,0)).fst≤x)&&decide (x<(xs.getD (Int.toNat (List.getD (bs.getD s7_1.toNat []) s36.toNat 0)) (0,0,0,0)).snd.snd.fst) then (o1.length+1)*8≤140737488355328∧f19_j3 R rs bs xs x s7_1 s36 J (o1++[List.getD (bs.getD s7_1.toNat []) s36.toNat 0]) else f19_j3 R rs bs xs x s7_1 s36 J o1 else R (AV.row 0) [Ob.row 3 KI o1]
theorem f19_eq2 (R:AV→List Ob→Prop) (rs:List Int) (bs:List (List Int)) (xs:List T4.den) (x:Int) (s7_1:Int) (J:St→Prop) (s36:Int) (o1:List Int):codeA tab (eG0.cut f19_cuts) (subC [1,1,1,1,1,0,1,0,0] (bodyOf Tryd.f19)) f19_live2 (f19_head2 rs bs xs x s7_1 s36 o1) (thenA (fun s=>J (St.tidy f19_live2 s)) (f19_q2 R))=f19_rhs2 R rs bs xs x s7_1 J s36 o1:=by kernel_rfl
set_option maxHeartbeats 2000000 in
theorem f19_rule2 (R:AV→List Ob→Prop) (rs:List Int) (bs:List (List Int)) (xs:List T4.den) (x:Int) (s7_1:Int) (I:Nat→(Int)→(List Int)→Prop) (n:Nat) (s36:Int) (o1:List Int) (h0:I n s36 o1) (h:∀n,∀(s36:Int) (o1:List Int),I n s36 o1→f19_rhs2 R rs bs xs x s7_1 (fun t=>∃m,m<n∧∃(s36:Int) (o1:List Int),t=f19_head2 rs bs xs x s7_1 s36 o1∧I m s36 o1) s36 o1):f19_loop2 R rs bs xs x s7_1 s36 o1:=
 loop_intro (fun n t=>∃(s36:Int) (o1:List Int),t=f19_head2 rs bs xs x s7_1 s36 o1∧I n s36 o1) n ⟨s36,o1,rfl,h0⟩ (fun n t ht=>by obtain⟨s36,o1,rfl,hI⟩:=ht;exact Eq.mpr (f19_eq2 R rs bs xs x s7_1 (fun t=>∃m,m<n∧∃(s36:Int) (o1:List Int),t=f19_head2 rs bs xs x s7_1 s36 o1∧I m s36 o1) s36 o1) (h n s36 o1 hI))
theorem f19_jeq1 (R:AV→List Ob→Prop) (rs:List Int) (bs:List (List Int)) (xs:List T4.den) (x:Int) (s7_1:Int):f19_j1 R rs bs xs x s7_1=(bif decide (s7_1<0) then R (AV.row 0) [Ob.row 3 KI []] else 0≤s7_1∧s7_1<(↑bs.length:Int)∧f19_loop2 R rs bs xs x s7_1 0 []):=(meet_eq _ _).trans (by kernel_rfl)
theorem f19_run (R:AV→List Ob→Prop) (rs:List Int) (bs:List (List Int)) (xs:List T4.den) (x y:Int):fnA tab (eG0.cut f19_cuts) Tryd.f19 (bodyOf Tryd.f19) [.lptr 74 TX [(rs,bs,xs)] 0 0,.int .i64 x,.int .i64 y] R=(rs.length≤1099511627776∧List.Pairwise (fun x1 x2=>x1≤x2) rs∧bif !fnd rs y then f19_j1 R rs bs xs x (IntKind.i64.wrap ((↑(lb rs y):Int)-1)) else f19_j1 R rs bs xs x (↑(lb rs y):Int)):=by kernel_rfl
theorem ok19:ConOk Tryd.prog (19,con19):=by
 intro args t h hp
 change con19 args=some t at h
 unfold con19 at h
 split at h
 · rename_i rs bs xs x y
   change List Int at rs
   change List (List Int) at bs
   change List T4.den at xs
   cases h
   refine fn_okF (envG0.cut f19_cuts) tab_ok mixed Tryd.func19 (by kernel_rfl) (by kernel_rfl) ?_
   rw[f19_run]
   try dsimp only
   have h1:=hp (rs.length≤1099511627776) (by simp)
   have h2:=hp (rs.Pairwise (· ≤ ·)) (by simp)
   have h3:=hp (bs.length=rs.length) (by simp)
   have h5:∀b:List Int,b∈bs→b.length≤4096∧∀i∈b,0≤i∧i<(xs.length:Int):=hp _ (by simp)
   have key:∀p:Int,(p<0→atAll rs bs xs x y=[])→(0≤p→p<bs.length∧atAll rs bs xs x y=(bs.getD p.toNat []).filter fun i=>colHas (xs.getD i.toNat (0,0,0,0)) x)→f19_j1 (fun v' news'=>Frz (newsH news') v' (AV.list 3 KI (atAll rs bs xs x y))) rs bs xs x p:=by
    intro p hn hy
    rw[f19_jeq1]
    refine dec_split (fun h => ?_) (fun h => ?_)
    · rw[hn h];exact .row 0 3 (.int .i64) [] rfl
    · obtain⟨g1,g2⟩:=hy (by omega)
      refine⟨by omega,g1,?_⟩
      rw[g2]
      obtain⟨b,hb⟩:∃b,b=bs.getD p.toNat []:=⟨_,rfl⟩
      obtain⟨b1,b2⟩:=h5 b (by rw[hb,getD_nat' _ _ _ (by omega)];exact List.getElem_mem _)
      rw[←hb]
      refine f19_rule2 _ rs bs xs x p (fun n i o=>∃k:Nat,k≤b.length∧n=b.length-k∧i=k∧o=(b.take k).filter fun i=>colHas (xs.getD i.toNat (0,0,0,0)) x) b.length 0 [] ⟨0,by omega,by simp,rfl,by simp⟩ ?_
      rintro n i o ⟨k,hk,rfl,rfl,rfl⟩
      unfold f19_rhs2
      rw[←hb]
      have hfl:((b.take k).filter fun i=>colHas (xs.getD i.toNat (0,0,0,0)) x).length≤4096:=Nat.le_trans (List.length_filter_le _ _) (by rw[List.length_take];omega)
      refine dec_split (fun hlt => ?_) (fun hlt => ?_)
      · have hlt':k<b.length:=by omega
        have hm:=b2 b[k] (List.getElem_mem hlt')
        rw[f19_jeq3,f19_jeq3,Int.toNat_natCast,getD_nat' b 0 k hlt',wrap_next k _ hlt' (by simp only[maxLen];omega)]
        refine⟨by omega,hlt,hm.1,hm.2,cond_split (fun hc=>⟨by omega,b.length-(k+1),by omega,_,_,rfl,k+1,by omega,rfl,rfl,?_⟩) (fun hc=>⟨b.length-(k+1),by omega,_,_,rfl,k+1,by omega,rfl,rfl,?_⟩)⟩
        · have hc:colHas (xs.getD (b[k]).toNat (0,0,0,0)) x=true:=hc
          rw[take_next b k hlt',List.filter_append];simp only[flt1,hc,cond_true]
        · have hc:colHas (xs.getD (b[k]).toNat (0,0,0,0)) x=false:=hc
          rw[take_next b k hlt',List.filter_append];simp only[flt1,hc,cond_false,List.append_nil]
      · rw[take_all b k (by omega)]
        exact .row 0 3 (.int .i64) _ rfl
   have hle:=lb_le rs y
   refine⟨h1,h2,cond_split (fun hc => ?_) (fun hc => ?_)⟩
   · have hc:fnd rs y=false:=by simpa using hc
     rw[wrap_id _ (by omega)]
     refine key _ (fun h => ?_) (fun h=>⟨by omega,?_⟩)
     · unfold atAll posAt;rw[hc,cond_false,decide_eq_true h];rfl
     · unfold atAll posAt;rw[hc,cond_false,decide_eq_false (by omega)];rfl
   · have hc:fnd rs y=true:=by simpa using hc
     have hlt:lb rs y<rs.length:=by
      unfold fnd at hc
      simp only[Bool.and_eq_true,decide_eq_true_eq] at hc
      exact hc.1
     refine key _ (fun h=>by omega) (fun h=>⟨by omega,?_⟩)
     unfold atAll posAt;rw[hc,cond_true,decide_eq_false (by omega)];rfl
 · cases h
def hitsTo (xs:List Rc4) (x y:Int):Nat→List Int
 | 0=>[]
 | k+1=>hitsTo xs x y k++bif hasP (xs.getD k (0,0,0,0)) x y then [(k:Int)] else []
def hits (xs:List Rc4) (x y:Int):List Int:=hitsTo xs x y xs.length
theorem hitsTo_len (xs:List Rc4) (x y:Int):∀k,(hitsTo xs x y k).length≤k
 | 0=>Nat.le_refl _
 | k+1=>by
  simp only[hitsTo,List.length_append]
  have:=hitsTo_len xs x y k
  cases hasP (xs.getD k (0,0,0,0)) x y
  · simp only[cond_false,List.length_nil];omega
  · simp only[cond_true,List.length_cons,List.length_nil];omega
def con22:List AV→Option Tells
 | [.list 30 (.pair (.int .i64) (.pair (.int .i64) (.pair (.int .i64) (.int .i64)))) xs,.int .i64 x,.int .i64 y]=>some ⟨[xs.length≤4096],.list 3 (.int .i64) (hits xs x y),[]⟩
 | _=>none
def f22_live1:List Nat:=[8,0,0,8,1,2,7,8,8,7,6]
def f22_head1 (xs:List T4.den) (x:Int) (y:Int) (s8:Int) (o1:List Int):St:={slots:=[AV.list 30 (KI.pair (KI.pair (KI.pair KI))) xs,AV.int .i64 x,AV.int .i64 y,AV.undef,AV.undef,AV.undef,AV.row 0,AV.row 1,AV.int .i64 s8]++List.replicate 19 AV.undef,obs:=[Ob.row 3 KI [],Ob.row 3 KI o1]}
def f22_q1 (R:AV→List Ob→Prop):Ex→St→Prop:=blockA 0 (seqQ tab eG0 (subC [1,1,1] (bodyOf Tryd.f22)) [6] (endA tab Tryd.f22 R))
def f22_loop1 (R:AV→List Ob→Prop) (xs:List T4.den) (x:Int) (y:Int) (s8:Int) (o1:List Int):Prop:=loopT f22_live1 (codeA tab eG0 (subC [1,1,0,1,0,0] (bodyOf Tryd.f22)) f22_live1) (f22_head1 xs x y s8 o1) (f22_q1 R)
def f22_rhs1 (R:AV→List Ob→Prop) (xs:List T4.den) (x:Int) (y:Int) (J:St→Prop) (s8:Int) (o1:List Int):Prop:=bif decide (s8<(↑xs.length:Int)) then 0≤s8∧s8<(↑xs.length:Int)∧bif hasP ((xs.getD s8.toNat (0,0,0,0)).fst,(xs.getD s8.toNat (0,0,0,0)).snd.fst,(xs.getD s8.toNat (0,0,0,0)).snd.snd.fst,(xs.getD s8.toNat (0,0,0,0)).snd.snd.snd) x y then (o1.length+1)*8≤140737488355328∧J (f22_head1 xs x y (IntKind.i64.wrap (s8+1)) (o1++[s8])) else J (f22_head1 xs x y (IntKind.i64.wrap (s8+1)) o1) else R (AV.row 0) [Ob.row 3 KI o1]
theorem f22_eq1 (R:AV→List Ob→Prop) (xs:List T4.den) (x:Int) (y:Int) (J:St→Prop) (s8:Int) (o1:List Int):codeA tab eG0 (subC [1,1,0,1,0,0] (bodyOf Tryd.f22)) f22_live1 (f22_head1 xs x y s8 o1) (thenA (fun s=>J (St.tidy f22_live1 s)) (f22_q1 R))=f22_rhs1 R xs x y J s8 o1:=by kernel_rfl
set_option maxHeartbeats 2000000 in
theorem f22_rule1 (R:AV→List Ob→Prop) (xs:List T4.den) (x:Int) (y:Int) (I:Nat→(Int)→(List Int)→Prop) (n:Nat) (s8:Int) (o1:List Int) (h0:I n s8 o1) (h:∀n,∀(s8:Int) (o1:List Int),I n s8 o1→f22_rhs1 R xs x y (fun t=>∃m,m<n∧∃(s8:Int) (o1:List Int),t=f22_head1 xs x y s8 o1∧I m s8 o1) s8 o1):f22_loop1 R xs x y s8 o1:=
 loop_intro (fun n t=>∃(s8:Int) (o1:List Int),t=f22_head1 xs x y s8 o1∧I n s8 o1) n ⟨s8,o1,rfl,h0⟩ (fun n t ht=>by obtain⟨s8,o1,rfl,hI⟩:=ht;exact Eq.mpr (f22_eq1 R xs x y (fun t=>∃m,m<n∧∃(s8:Int) (o1:List Int),t=f22_head1 xs x y s8 o1∧I m s8 o1) s8 o1) (h n s8 o1 hI))
theorem f22_run (R:AV→List Ob→Prop) (xs:List T4.den) (x y:Int):fnA tab eG0 Tryd.f22 (bodyOf Tryd.f22) [.list 30 T4 xs,.int .i64 x,.int .i64 y] R=(f22_loop1 R xs x y 0 []):=by kernel_rfl
theorem ok22:ConOk Tryd.prog (22,con22):=by
 intro args t h hp
 change con22 args=some t at h
 unfold con22 at h
 split at h
 · rename_i xs x y
   change List T4.den at xs
   cases h
   refine fn_okF envG0 tab_ok mixed Tryd.func22 (by kernel_rfl) (by kernel_rfl) ?_
   rw[f22_run]
   try dsimp only
   have hm:=hp (xs.length≤4096) (by simp)
   refine f22_rule1 _ xs x y (fun n i o=>∃k:Nat,k≤xs.length∧n=xs.length-k∧i=k∧o=hitsTo xs x y k) xs.length 0 [] ⟨0,by omega,by simp,rfl,rfl⟩ ?_
   rintro n i o ⟨k,hk,rfl,rfl,rfl⟩
   unfold f22_rhs1
   refine dec_split (fun hlt=>⟨by omega,hlt,?_⟩) (fun hlt => ?_)
   · have hlt':k<xs.length:=by omega
     have hl:=hitsTo_len xs x y k
     rw[wrap_next k _ hlt' (by simp only[maxLen];omega)]
     refine cond_split (fun hc=>⟨by omega,xs.length-(k+1),by omega,_,_,rfl,k+1,by omega,rfl,rfl,?_⟩) (fun hc=>⟨xs.length-(k+1),by omega,_,_,rfl,k+1,by omega,rfl,rfl,?_⟩)
     · have hc':hasP (xs.getD k (0,0,0,0)) x y=true:=hc
       simp only[hitsTo,hc',cond_true]
     · have hc':hasP (xs.getD k (0,0,0,0)) x y=false:=hc
       simp only[hitsTo,hc',cond_false,List.append_nil]
   · have e:k=xs.length:=by omega
     subst e
     exact .row 0 3 (.int .i64) _ rfl
 · cases h
def consG1:Cons:=(22,con22)::consG0
def twosG1:Cons2:=(33,con33)::(21,con21)::twosG0
def pansG1:Cons3:=pansG0
def itersG1:Cons4:=itersG0
abbrev eG1:Env:=envOf4 consG1 twosG1 pansG1 itersG1
theorem allconsG1:∀c∈consG1,ConOk Tryd.prog c:=all_cons ok22 allconsG0
theorem alltwosG1:∀c∈twosG1,ConOk2 Tryd.prog c:=all_cons ok33 (all_cons ok21 alltwosG0)
theorem allpansG1:∀c∈pansG1,ConOk3 Tryd.prog c:=allpansG0
theorem allitersG1:∀c∈itersG1,ConOk4 Tryd.prog c:=allitersG0
theorem envG1:EnvOk Tryd.prog eG1:=envOf4_ok _ _ _ _ allconsG1 alltwosG1 allpansG1 allitersG1
def con20:List AV→List Ob→Option Tells2
 | [.ptr 0 0,.int .u8 c],[.cells 58 [.nptr 0,.row 1],.row 5 (.int .u8) xs]=>some ⟨[xs.length+1≤140737488355328],.nili,[some (.cells 58 [.nptr 0,.row 2]),some .dead],[.row 5 (.int .u8) (xs++[c])]⟩
 | _,_=>none
theorem f20_run (R:AV→List Ob→Prop) (c:Int) (xs:List Int):fnB tab eG1 Tryd.f20 (bodyOf Tryd.f20) [.ptr 0 0,.int .u8 c] [.cells 58 [.nptr 0,.row 1],.row 5 (.int .u8) xs] R=((xs.length+1)*1≤140737488355328∧R AV.nili [Ob.cells 58 [AV.nptr 0,AV.row 2],Ob.dead,Ob.row 5 (Ty.int IntKind.u8) (xs++[c])]):=by kernel_rfl
theorem ok20:ConOk2 Tryd.prog (20,con20):=by
 intro args obs t h hp
 change con20 args obs=some t at h
 unfold con20 at h
 split at h
 · rename_i c xs
   change List Int at xs
   cases h
   refine fn_ok2 envG1 tab_ok mixed Tryd.func20 (by kernel_rfl) (by kernel_rfl) ?_
   rw[f20_run]
   try dsimp only
   have h:=hp (xs.length+1≤140737488355328) (by simp)
   exact⟨by omega,rfl,rfl⟩
 · cases h
def dgt (n:Int):Int:=bif decide (n<10) then 48+n else 87+n
def sgn (l:List Int):Int:=bif (l.length:Int)==0 then 46 else dgt ((l.getD (l.length-1) 0).tmod 36)
def picRow (xs:List Rc4) (y:Int) (c:Nat):List Int:=(List.range c).map fun x:Nat=>sgn (hits xs (x:Int) y)
def pic (xs:List Rc4) (x y:Int):List ByteArray:=(List.range y.toNat).map fun j:Nat=>toBytes (picRow xs (j:Int) x.toNat)
theorem strAt_dgt:∀n:Fin 36,strAt ⟨#[48,49,50,51,52,53,54,55,56,57,97,98,99,100,101,102,103,104,105,106,107,108,109,110,111,112,113,114,115,116,117,118,119,120,121,122]⟩ n.val=dgt (n.val:Int):=by decide
theorem picRow_len (xs:List Rc4) (y:Int) (c:Nat):(picRow xs y c).length=c:=by simp[picRow]
theorem picRow_next (xs:List Rc4) (y:Int) (c:Nat):picRow xs y (c+1)=picRow xs y c++[sgn (hits xs (c:Int) y)]:=by
 unfold picRow
 rw[List.range_succ,List.map_append]
 rfl
theorem hits_lt (xs:List Rc4) (x y:Int):∀k,∀i∈hitsTo xs x y k,0≤i∧i<k
 | 0,i,h=>by simp[hitsTo] at h
 | k+1,i,h=>by
  simp only[hitsTo,List.mem_append] at h
  rcases h with h | h
  · have:=hits_lt xs x y k i h;omega
  · cases hc:hasP (xs.getD k (0,0,0,0)) x y<;>rw[hc] at h
    · simp at h
    · simp at h;omega
theorem band_lt (xs:List Rc4) (v:Int):∀k,∀i∈bandK xs v k,0≤i∧i<k
 | 0,i,h=>by simp[bandK] at h
 | k+1,i,h=>by
  simp only[bandK,List.mem_append] at h
  rcases h with h | h
  · have:=band_lt xs v k i h;omega
  · cases hc:inB (xs.getD k (0,0,0,0)) v<;>rw[hc] at h
    · simp at h
    · simp at h;omega
theorem bands_ok (xs:List Rc4) (hm:xs.length≤4096) (rs:List Int):∀b∈bandsOf xs rs,b.length≤4096∧∀i∈b,0≤i∧i<(xs.length:Int):=by
 intro b hb
 obtain⟨v,_,rfl⟩:=List.mem_map.1 hb
 exact⟨Nat.le_trans (band_len xs v xs.length) hm,fun i hi=>band_lt xs v xs.length i hi⟩
theorem last_bd (xs:List Rc4) (x y:Int) (h:(hits xs x y).length≠0):0≤((hits xs x y).getD ((hits xs x y).length-1) 0).tmod 36∧((hits xs x y).getD ((hits xs x y).length-1) 0).tmod 36<36:=by
 have hlt:(hits xs x y).length-1<(hits xs x y).length:=by omega
 have:=hits_lt xs x y xs.length _ (List.getElem_mem (l:=hits xs x y) hlt)
 rw[getD_nat' _ 0 _ hlt]
 exact⟨Int.tmod_nonneg _ this.1,Int.tmod_lt_of_pos _ (by omega)⟩
theorem sgn_bd (xs:List Rc4) (x y:Int):0≤sgn (hits xs x y)∧sgn (hits xs x y)<256:=by
 unfold sgn
 cases hc:((hits xs x y).length:Int)==0
 · have h:(hits xs x y).length≠0:=by intro h;rw[h] at hc;simp at hc
   have:=last_bd xs x y h
   simp only[cond_false,dgt]
   cases decide (((hits xs x y).getD ((hits xs x y).length-1) 0).tmod 36<10)<;>simp only[cond_false,cond_true]<;>omega
 · simp
theorem picRow_bd (xs:List Rc4) (y:Int) (c:Nat):∀v∈picRow xs y c,0≤v∧v<256:=by
 intro v hv
 obtain⟨x,_,rfl⟩:=List.mem_map.1 hv
 exact sgn_bd xs x y
theorem hasP_eq {r:Rc4} (hr:smR r=true) {x y v:Int} (ht:r.2.1≤y↔r.2.1≤v) (hb:r.2.2.2≤y↔r.2.2.2≤v):hasP r x y=(inB r v&&colHas r x):=by
 unfold hasP inB colHas
 rw[fullR_eq hr,Bool.eq_iff_iff]
 simp only[Bool.and_eq_true,decide_eq_true_eq]
 omega
theorem hasP_no {r:Rc4} (hr:smR r=true) {x y:Int} (h:fullR r=false):hasP r x y=false:=by
 rw[fullR_eq hr] at h
 unfold hasP
 rw[Bool.eq_false_iff] at h ⊢
 intro hc
 apply h
 simp only[Bool.and_eq_true,decide_eq_true_eq] at hc ⊢
 omega
theorem fnd_of {rs:List Int} (hs:rs.Pairwise (· ≤ ·)) {y:Int} (h:y∈rs):fnd rs y=true:=by
 obtain⟨h1,h2⟩:=lb_mem hs h
 unfold fnd
 rw[decide_eq_true h1,h2]
 simp
theorem all_eq (xs:List Rc4) (hsm:xs.all smR=true) (x y:Int):atAll (rowsOf xs) (bandsOf xs (rowsOf xs)) xs x y=hits xs x y:=by
 have hs:(rowsOf xs).Pairwise (· ≤ ·):=sortI_le _
 have hmem:=rows_mem xs
 generalize rowsOf xs=R at hs hmem
 have hle:=lb_le R y
 have hnf:fnd R y=false→y∉R:=fun h hy=>by rw[fnd_of hs hy] at h;cases h
 have hidx:∀e∈R,e<y→0<lb R y∧e≤R.getD (lb R y-1) 0:=by
  intro e he hlt
  obtain⟨m,hm,e1⟩:=List.getElem_of_mem he
  have hml:m<lb R y:=by
   refine Nat.lt_of_not_le fun hc => ?_
   have:=lb_ge y R m hs hc hm
   rw[getD_nat' R 0 m hm,e1] at this
   omega
  refine⟨by omega,?_⟩
  rw[getD_nat' R 0 _ (by omega)]
  by_cases h:m=lb R y-1
  · subst h;exact Int.le_of_eq e1.symm
  · have:=List.pairwise_iff_getElem.1 hs m (lb R y-1) hm (by omega) (by omega)
    omega
 unfold atAll
 by_cases hp:posAt R y<0
 · rw[decide_eq_true hp,cond_true]
   unfold posAt at hp
   cases hf:fnd R y with
   | true=>rw[hf] at hp;simp at hp;omega
   | false=>
    rw[hf] at hp
    simp only[cond_false] at hp
    have hno:∀k,k≤xs.length→hitsTo xs x y k=[]:=by
     intro k
     induction k with
     | zero=>intro _;rfl
     | succ k ih=>
      intro hk
      have hrx:xs.getD k (0,0,0,0)∈xs:=by rw[getD_nat' _ _ k hk];exact List.getElem_mem hk
      have hr:=List.all_eq_true.1 hsm _ hrx
      unfold hitsTo
      rw[ih (by omega)]
      have:hasP (xs.getD k (0,0,0,0)) x y=false:=by
       cases hfu:fullR (xs.getD k (0,0,0,0)) with
       | false=>exact hasP_no hr hfu
       | true=>
        have ht:=(hmem (xs.getD k (0,0,0,0)).2.1).2 ⟨_,hrx,hfu,.inl rfl⟩
        rw[Bool.eq_false_iff]
        intro hc
        unfold hasP at hc
        simp only[Bool.and_eq_true,decide_eq_true_eq] at hc
        have hne:(xs.getD k (0,0,0,0)).2.1≠y:=fun e=>hnf hf (e▸ht)
        have:=hidx _ ht (by omega)
        omega
      rw[this]
      rfl
    exact (hno xs.length (Nat.le_refl _)).symm
 · rw[decide_eq_false hp,cond_false]
   obtain⟨q,hq1,hq2,hv⟩:∃q:Nat,posAt R y=q∧q<R.length∧∀e∈R,e≤y↔e≤R.getD q 0:=by
    unfold posAt at hp ⊢
    cases hf:fnd R y with
    | true=>
     rw[hf] at hp
     have hf':=hf
     unfold fnd at hf'
     simp only[Bool.and_eq_true,decide_eq_true_eq,beq_iff_eq] at hf'
     exact⟨lb R y,rfl,hf'.1,fun e _=>by rw[hf'.2]⟩
    | false=>
     rw[hf] at hp
     simp only[cond_false] at hp
     refine⟨lb R y-1,by simp only[cond_false];omega,by omega,fun e he=>⟨fun h => ?_,fun h => ?_⟩⟩
     · have hne:e≠y:=fun e'=>hnf hf (e'▸he)
       exact (hidx e he (by omega)).2
     · have:=lb_lt y R (lb R y-1) (by omega)
       omega
   have hb:(bandsOf xs R).getD (posAt R y).toNat []=bandK xs (R.getD q 0) xs.length:=by
    rw[hq1,Int.toNat_natCast,getD_nat' _ _ q (by rw[bandsOf,List.length_map];exact hq2),getD_nat' R 0 q hq2]
    simp[bandsOf]
   rw[hb]
   have main:∀k,k≤xs.length→(bandK xs (R.getD q 0) k).filter (fun i=>colHas (xs.getD i.toNat (0,0,0,0)) x)=hitsTo xs x y k:=by
    intro k
    induction k with
    | zero=>intro _;rfl
    | succ k ih=>
     intro hk
     have hrx:xs.getD k (0,0,0,0)∈xs:=by rw[getD_nat' _ _ k hk];exact List.getElem_mem hk
     have hr:=List.all_eq_true.1 hsm _ hrx
     unfold bandK hitsTo
     rw[List.filter_append,ih (by omega)]
     congr 1
     have hh:hasP (xs.getD k (0,0,0,0)) x y=(inB (xs.getD k (0,0,0,0)) (R.getD q 0)&&colHas (xs.getD k (0,0,0,0)) x):=by
      cases hfu:fullR (xs.getD k (0,0,0,0)) with
      | false=>rw[hasP_no hr hfu,inB,hfu];rfl
      | true=>exact hasP_eq hr (hv _ ((hmem _).2 ⟨_,hrx,hfu,.inl rfl⟩)) (hv _ ((hmem _).2 ⟨_,hrx,hfu,.inr rfl⟩))
     rw[hh]
     cases inB (xs.getD k (0,0,0,0)) (R.getD q 0)
     · rfl
     · simp only[cond_true,Bool.true_and]
       cases hcc:colHas (xs.getD k (0,0,0,0)) x
       · simp only[flt1,Int.toNat_natCast,hcc,cond_false]
       · simp only[flt1,Int.toNat_natCast,hcc,cond_true]
   exact main xs.length (Nat.le_refl _)
theorem u8_id (x:Int) (h:0≤x∧x<256):IntKind.wrap .u8 x=x:=by
 simp[IntKind.wrap,IntKind.signed,IntKind.bits]
 omega
def consG2:Cons:=(19,con19)::consG1
def twosG2:Cons2:=(20,con20)::twosG1
def pansG2:Cons3:=pansG1
def itersG2:Cons4:=itersG1
abbrev eG2:Env:=envOf4 consG2 twosG2 pansG2 itersG2
theorem allconsG2:∀c∈consG2,ConOk Tryd.prog c:=all_cons ok19 allconsG1
theorem alltwosG2:∀c∈twosG2,ConOk2 Tryd.prog c:=all_cons ok20 alltwosG1
theorem allpansG2:∀c∈pansG2,ConOk3 Tryd.prog c:=allpansG1
theorem allitersG2:∀c∈itersG2,ConOk4 Tryd.prog c:=allitersG1
theorem envG2:EnvOk Tryd.prog eG2:=envOf4_ok _ _ _ _ allconsG2 alltwosG2 allpansG2 allitersG2
def con11:List AV→Option Tells
 | [.agg (.cons (.list 34 (.pair (.int .i64) (.pair (.int .i64) (.pair (.int .i64) (.int .i64)))) xs) (.cons (.list 214 (.pair (.int .i64) (.pair (.pair (.int .i64) (.pair (.int .i64) (.pair (.int .i64) (.int .i64)))) (.pair (.int .i64) (.int .i64)))) []) .nl)),.int .i64 x,.int .i64 y]=>some ⟨[xs.length≤4096,xs.all smR=true,x≤4096,y≤4096],.row 0,[.row 9 .str (blk (pic xs x y))]⟩
 | _=>none
def f11_live1:List Nat:=[17,16,17,1,7,8,17,8,6]
def f11_head1 (xs:List T4.den) (x:Int) (y:Int) (s17:Int) (o1:List ByteArray):St:={slots:=[AV.undef,AV.int .i64 x]++List.replicate 4 AV.undef++[AV.row 0,AV.lptr 74 ((Ty.list 3 KI).pair ((Ty.list 32 (Ty.list 3 KI)).pair (Ty.list 34 (KI.pair (KI.pair (KI.pair KI)))))) [(blk (rowsOf xs),blk (bandsOf xs (rowsOf xs)),xs)] 0 0,AV.row 1]++List.replicate 7 AV.undef++[AV.int .i64 (if 0>y then 0 else y),AV.int .i64 s17]++List.replicate 31 AV.undef,obs:=[Ob.row 9 Ty.str [],Ob.row 9 Ty.str o1]}
def f11_q1 (R:AV→List Ob→Prop):Ex→St→Prop:=blockA 0 (seqQ tab eG2 (subC [1,1,1,1] (bodyOf Tryd.f11)) [6] (endA tab Tryd.f11 R))
def f11_loop1 (R:AV→List Ob→Prop) (xs:List T4.den) (x:Int) (y:Int) (s17:Int) (o1:List ByteArray):Prop:=loopT f11_live1 (codeA tab eG2 (subC [1,1,1,0,1,0,0] (bodyOf Tryd.f11)) f11_live1) (f11_head1 xs x y s17 o1) (f11_q1 R)
def f11_live2:List Nat:=[22,21,22,7,9,10,10,22,8,10,17,17,16,17,1,7,8,17,8,6]
def f11_head2 (xs:List T4.den) (x:Int) (y:Int) (s17:Int) (o1:List ByteArray) (s22':Int) (o3':List Int):St:={slots:=[AV.undef,AV.int .i64 x]++List.replicate 4 AV.undef++[AV.row 0,AV.lptr 74 ((Ty.list 3 KI).pair ((Ty.list 32 (Ty.list 3 KI)).pair (Ty.list 34 (KI.pair (KI.pair (KI.pair KI)))))) [(blk (rowsOf xs),blk (bandsOf xs (rowsOf xs)),xs)] 0 0,AV.row 1,AV.int .i64 s17,AV.ptr 2 0]++List.replicate 5 AV.undef++[AV.int .i64 (if 0>y then 0 else y),AV.int .i64 s17,AV.undef,AV.undef,AV.undef,AV.int .i64 (if 0>x then 0 else x),AV.int .i64 s22']++List.replicate 26 AV.undef,obs:=[Ob.row 9 Ty.str [],Ob.row 9 Ty.str o1,Ob.cells 58 [AV.nptr 2,AV.row 3],Ob.row 5 (Ty.int IntKind.u8) o3']}
def f11_q2 (R:AV→List Ob→Prop) (J:St→Prop):Ex→St→Prop:=blockA 2 (seqQ tab eG2 (subC [1,1,1,0,1,0,0,1,1,0,0,1,1,1] (bodyOf Tryd.f11)) [17,17,16,17,1,7,8,17,8,6] (blockA 1 (seqQ tab eG2 (subC [1,1,1,0,1,0,0,1,1,1] (bodyOf Tryd.f11)) [17,16,17,1,7,8,17,8,6] (thenA (fun s=>J (St.tidy f11_live1 s)) (blockA 0 (seqQ tab eG2 (subC [1,1,1,1] (bodyOf Tryd.f11)) [6] (endA tab Tryd.f11 R)))))))
def f11_loop2 (R:AV→List Ob→Prop) (xs:List T4.den) (x:Int) (y:Int) (s17:Int) (o1:List ByteArray) (J:St→Prop) (s22':Int) (o3':List Int):Prop:=loopT f11_live2 (codeA tab eG2 (subC [1,1,1,0,1,0,0,1,1,0,0,1,1,0,1,0,0] (bodyOf Tryd.f11)) f11_live2) (f11_head2 xs x y s17 o1 s22' o3') (f11_q2 R J)
set_option maxHeartbeats 2000000 in
def f11_rhs2 (R:AV→List Ob→Prop) (xs:List T4.den) (x:Int) (y:Int) (s17:Int) (o1:List ByteArray) (J:St→Prop) (J1:St→Prop) (s22':Int) (o3':List Int):Prop:=bif decide (s22'<if 0>x then 0 else x) then List.length (blk (rowsOf xs))≤1099511627776∧List.Pairwise (fun x1 x2=>x1≤x2) (blk (rowsOf xs))∧List.length (blk (bandsOf xs (rowsOf xs)))=List.length (blk (rowsOf xs))∧xs.length≤4096∧(∀(b:(Ty.list 3 KI).den),b∈blk (bandsOf xs (rowsOf xs))→List.length b≤4096∧∀(i:KI.den),i∈b→0≤i∧i<(↑xs.length:Int))∧bif (↑(atAll (blk (rowsOf xs)) (blk (bandsOf xs (rowsOf xs))) xs s22' s17).length:Int)==0 then o3'.length+1≤140737488355328∧J1 (f11_head2 xs x y s17 o1 (IntKind.i64.wrap (s22'+1)) (o3'++[46])) else 0≤IntKind.i64.wrap ((↑(atAll (blk (rowsOf xs)) (blk (bandsOf xs (rowsOf xs))) xs s22' s17).length:Int)-1)∧IntKind.i64.wrap ((↑(atAll (blk (rowsOf xs)) (blk (bandsOf xs (rowsOf xs))) xs s22' s17).length:Int)-1)<(↑(atAll (blk (rowsOf xs)) (blk (bandsOf xs (rowsOf xs))) xs s22' s17).length:Int)∧(36:Int)≠0∧0≤Int.tmod ((atAll (blk (rowsOf xs)) (blk (bandsOf xs (rowsOf xs))) xs s22' s17).getD (IntKind.i64.wrap ((↑(atAll (blk (rowsOf xs)) (blk (bandsOf xs (rowsOf xs))) xs s22' s17).length:Int)-1)).toNat 0) 36∧Int.tmod ((atAll (blk (rowsOf xs)) (blk (bandsOf xs (rowsOf xs))) xs s22' s17).getD (IntKind.i64.wrap ((↑(atAll (blk (rowsOf xs)) (blk (bandsOf xs (rowsOf xs))) xs s22' s17).length:Int)-1)).toNat 0) 36<36∧o3'.length+1≤140737488355328∧J1 (f11_head2 xs x y s17 o1 (IntKind.i64.wrap (s22'+1)) (o3'++[strAt {data := #[48,49,50,51,52,53,54,55,56,57,97,98,99,100,101,102,103,104,105,106,107,108,109,110,111,112,113,114,115,116,117,118,119,120,121,122]} (Int.tmod ((atAll (blk (rowsOf xs)) (blk (bandsOf xs (rowsOf xs))) xs s22' s17).getD (IntKind.i64.wrap ((↑(atAll (blk (rowsOf xs)) (blk (bandsOf xs (rowsOf xs))) xs s22' s17).length:Int)-1)).toNat 0) 36).toNat])) else (∀(x:(Ty.int IntKind.u8).den),x∈o3'→0≤x∧x<256)∧(o1.length+1)*16≤140737488355328∧J (f11_head1 xs x y (IntKind.i64.wrap (s17+1)) (o1++[toBytes o3']))
theorem f11_eq2 (R:AV→List Ob→Prop) (xs:List T4.den) (x:Int) (y:Int) (s17:Int) (o1:List ByteArray) (J:St→Prop) (J1:St→Prop) (s22':Int) (o3':List Int):codeA tab eG2 (subC [1,1,1,0,1,0,0,1,1,0,0,1,1,0,1,0,0] (bodyOf Tryd.f11)) f11_live2 (f11_head2 xs x y s17 o1 s22' o3') (thenA (fun s=>J1 (St.tidy f11_live2 s)) (f11_q2 R J))=f11_rhs2 R xs x y s17 o1 J J1 s22' o3':=by kernel_rfl
set_option maxHeartbeats 2000000 in
theorem f11_rule2 (R:AV→List Ob→Prop) (xs:List T4.den) (x:Int) (y:Int) (s17:Int) (o1:List ByteArray) (J:St→Prop) (I:Nat→(Int)→(List Int)→Prop) (n:Nat) (s22':Int) (o3':List Int) (h0:I n s22' o3') (h:∀n,∀(s22':Int) (o3':List Int),I n s22' o3'→f11_rhs2 R xs x y s17 o1 J (fun t=>∃m,m<n∧∃(s22':Int) (o3':List Int),t=f11_head2 xs x y s17 o1 s22' o3'∧I m s22' o3') s22' o3'):f11_loop2 R xs x y s17 o1 J s22' o3':=
 loop_intro (fun n t=>∃(s22':Int) (o3':List Int),t=f11_head2 xs x y s17 o1 s22' o3'∧I n s22' o3') n ⟨s22',o3',rfl,h0⟩ (fun n t ht=>by obtain⟨s22',o3',rfl,hI⟩:=ht;exact Eq.mpr (f11_eq2 R xs x y s17 o1 J (fun t=>∃m,m<n∧∃(s22':Int) (o3':List Int),t=f11_head2 xs x y s17 o1 s22' o3'∧I m s22' o3') s22' o3') (h n s22' o3' hI))
def f11_rhs1 (R:AV→List Ob→Prop) (xs:List T4.den) (x:Int) (y:Int) (J:St→Prop) (s17:Int) (o1:List ByteArray):Prop:=bif decide (s17<if 0>y then 0 else y) then f11_loop2 R xs x y s17 o1 J 0 [] else R (AV.row 0) [Ob.row 9 Ty.str o1]
theorem f11_eq1 (R:AV→List Ob→Prop) (xs:List T4.den) (x:Int) (y:Int) (J:St→Prop) (s17:Int) (o1:List ByteArray):codeA tab eG2 (subC [1,1,1,0,1,0,0] (bodyOf Tryd.f11)) f11_live1 (f11_head1 xs x y s17 o1) (thenA (fun s=>J (St.tidy f11_live1 s)) (f11_q1 R))=f11_rhs1 R xs x y J s17 o1:=by kernel_rfl
set_option maxHeartbeats 2000000 in
theorem f11_rule1 (R:AV→List Ob→Prop) (xs:List T4.den) (x:Int) (y:Int) (I:Nat→(Int)→(List ByteArray)→Prop) (n:Nat) (s17:Int) (o1:List ByteArray) (h0:I n s17 o1) (h:∀n,∀(s17:Int) (o1:List ByteArray),I n s17 o1→f11_rhs1 R xs x y (fun t=>∃m,m<n∧∃(s17:Int) (o1:List ByteArray),t=f11_head1 xs x y s17 o1∧I m s17 o1) s17 o1):f11_loop1 R xs x y s17 o1:=
 loop_intro (fun n t=>∃(s17:Int) (o1:List ByteArray),t=f11_head1 xs x y s17 o1∧I n s17 o1) n ⟨s17,o1,rfl,h0⟩ (fun n t ht=>by obtain⟨s17,o1,rfl,hI⟩:=ht;exact Eq.mpr (f11_eq1 R xs x y (fun t=>∃m,m<n∧∃(s17:Int) (o1:List ByteArray),t=f11_head1 xs x y s17 o1∧I m s17 o1) s17 o1) (h n s17 o1 hI))
theorem f11_run (R:AV→List Ob→Prop) (xs:List T4.den) (x y:Int):fnA tab eG2 Tryd.f11 (bodyOf Tryd.f11) [.agg (.cons (.list 34 T4 xs) (.cons (.list 214 TL []) .nl)),.int .i64 x,.int .i64 y] R=(xs.length≤4096∧xs.all smR=true∧f11_loop1 R xs x y 0 []):=by kernel_rfl
theorem ok11:ConOk Tryd.prog (11,con11):=by
 intro args t h hp
 change con11 args=some t at h
 unfold con11 at h
 split at h
 · rename_i xs x y
   change List T4.den at xs
   cases h
   refine fn_ok envG2 tab_ok mixed Tryd.func11 (by kernel_rfl) (by kernel_rfl) ?_
   rw[f11_run]
   try dsimp only
   rw[blk_eq (pic xs x y)]
   have hm:=hp (xs.length≤4096) (by simp)
   have hsm:=hp (xs.all smR=true) (by simp)
   have hx:=hp (x≤4096) (by simp)
   have hy:=hp (y≤4096) (by simp)
   have hx':(if 0>x then 0 else x)=(x.toNat:Int):=by split<;>omega
   have hy':(if 0>y then 0 else y)=(y.toNat:Int):=by split<;>omega
   refine⟨hm,hsm,f11_rule1 _ xs x y (fun n i o=>∃j:Nat,j≤y.toNat∧n=y.toNat-j∧i=j∧o=(List.range j).map fun j:Nat=>toBytes (picRow xs (j:Int) x.toNat)) y.toNat 0 [] ⟨0,by omega,by simp,rfl,rfl⟩ ?_⟩
   rintro n i o ⟨j,hj,rfl,rfl,rfl⟩
   unfold f11_rhs1
   rw[hy']
   refine dec_split (fun hlt => ?_) (fun hlt => ?_)
   · refine f11_rule2 _ xs x y j _ _ (fun n i o=>∃k:Nat,k≤x.toNat∧n=x.toNat-k∧i=k∧o=picRow xs (j:Int) k) x.toNat 0 [] ⟨0,by omega,by simp,rfl,rfl⟩ ?_
     rintro n i o ⟨k,hk,rfl,rfl,rfl⟩
     unfold f11_rhs2
     have hpl:=picRow_len xs (j:Int) k
     rw[hx',blk_eq,blk_eq,all_eq xs hsm]
     refine dec_split (fun hlt2=>⟨by have:=rows_len xs;omega,sortI_le _,by rw[bandsOf,List.length_map],hm,bands_ok xs hm _,?_⟩) (fun hlt2 => ?_)
     · have hl:=hitsTo_len xs (k:Int) (j:Int) xs.length
       have hl:(hits xs (k:Int) (j:Int)).length≤xs.length:=hl
       rw[wrap_next k x.toNat (by omega) (by simp only[maxLen];omega)]
       refine cond_split (fun hc=>⟨by omega,x.toNat-(k+1),by omega,_,_,rfl,k+1,by omega,rfl,rfl,?_⟩) (fun hc => ?_)
       · rw[picRow_next,sgn,hc,cond_true]
       · have hne:(hits xs (k:Int) (j:Int)).length≠0:=by intro h;rw[h] at hc;simp at hc
         have hbd:=last_bd xs (k:Int) (j:Int) hne
         rw[wrap_id _ (by omega),show (((hits xs (k:Int) (j:Int)).length:Int)-1).toNat=(hits xs (k:Int) (j:Int)).length-1 by omega]
         refine⟨by omega,by omega,by decide,hbd.1,hbd.2,by omega,x.toNat-(k+1),by omega,_,_,rfl,k+1,by omega,rfl,rfl,?_⟩
         rw[picRow_next,sgn,hc,cond_false]
         congr 2
         generalize ((hits xs (k:Int) (j:Int)).getD ((hits xs (k:Int) (j:Int)).length-1) 0).tmod 36=d at hbd
         have:=strAt_dgt ⟨d.toNat,by omega⟩
         rw[this]
         congr 1
         simp only
         omega
     · have hkx:k=x.toNat:=by omega
       subst hkx
       refine⟨picRow_bd xs _ _,by rw[List.length_map,List.length_range];omega,y.toNat-(j+1),by omega,_,_,rfl,j+1,by omega,rfl,wrap_next j y.toNat (by omega) (by simp only[maxLen];omega),?_⟩
       rw[List.range_succ,List.map_append]
       rfl
   · have e:j=y.toNat:=by omega
     subst e
     exact⟨rfl,rfl⟩
 · cases h
def con12:List AV→Option Tells
 | [.list 30 (.pair (.int .i64) (.pair (.int .i64) (.pair (.int .i64) (.int .i64)))) xs,.int .i64 x,.int .i64 y]=>some ⟨[xs.length≤4096,x≤4096,y≤4096],.row 0,[.row 9 .str (blk (pic xs x y))]⟩
 | _=>none
def f12_live1:List Nat:=[8,2,1,0,8,7,8,7,6]
def f12_head1 (xs:List T4.den) (x:Int) (y:Int) (s8:Int) (o1:List ByteArray):St:={slots:=[AV.list 30 (KI.pair (KI.pair (KI.pair KI))) xs,AV.int .i64 x,AV.int .i64 y,AV.undef,AV.undef,AV.undef,AV.row 0,AV.row 1,AV.int .i64 s8]++List.replicate 53 AV.undef,obs:=[Ob.row 9 Ty.str [],Ob.row 9 Ty.str o1]}
def f12_q1 (R:AV→List Ob→Prop):Ex→St→Prop:=blockA 0 (seqQ tab eG2 (subC [1,1,1] (bodyOf Tryd.f12)) [6] (endA tab Tryd.f12 R))
def f12_loop1 (R:AV→List Ob→Prop) (xs:List T4.den) (x:Int) (y:Int) (s8:Int) (o1:List ByteArray):Prop:=loopT f12_live1 (codeA tab eG2 (subC [1,1,0,1,0,0] (bodyOf Tryd.f12)) f12_live1) (f12_head1 xs x y s8 o1) (f12_q1 R)
def f12_live2:List Nat:=[10,1,0,10,8,9,9,9,10,7,9,8,8,2,1,0,8,7,8,7,6]
def f12_head2 (xs:List T4.den) (x:Int) (y:Int) (s8:Int) (o1:List ByteArray) (s10':Int) (o2':List Int):St:={slots:=[AV.list 30 (KI.pair (KI.pair (KI.pair KI))) xs,AV.int .i64 x,AV.int .i64 y,AV.undef,AV.undef,AV.undef,AV.row 0,AV.row 1,AV.int .i64 s8,AV.row 2,AV.int .i64 s10']++List.replicate 51 AV.undef,obs:=[Ob.row 9 Ty.str [],Ob.row 9 Ty.str o1,Ob.row 5 (Ty.int IntKind.u8) o2']}
def f12_q2 (R:AV→List Ob→Prop) (J:St→Prop):Ex→St→Prop:=blockA 2 (seqQ tab eG2 (subC [1,1,0,1,0,0,1,0,0,1,1] (bodyOf Tryd.f12)) [8,8,2,1,0,8,7,8,7,6] (blockA 1 (seqQ tab eG2 (subC [1,1,0,1,0,0,1,1] (bodyOf Tryd.f12)) [8,2,1,0,8,7,8,7,6] (thenA (fun s=>J (St.tidy f12_live1 s)) (blockA 0 (seqQ tab eG2 (subC [1,1,1] (bodyOf Tryd.f12)) [6] (endA tab Tryd.f12 R)))))))
def f12_loop2 (R:AV→List Ob→Prop) (xs:List T4.den) (x:Int) (y:Int) (s8:Int) (o1:List ByteArray) (J:St→Prop) (s10':Int) (o2':List Int):Prop:=loopT f12_live2 (codeA tab eG2 (subC [1,1,0,1,0,0,1,0,0,1,0,1,0,0] (bodyOf Tryd.f12)) f12_live2) (f12_head2 xs x y s8 o1 s10' o2') (f12_q2 R J)
def f12_rhs2 (R:AV→List Ob→Prop) (xs:List T4.den) (x:Int) (y:Int) (s8:Int) (o1:List ByteArray) (J:St→Prop) (J1:St→Prop) (s10':Int) (o2':List Int):Prop:=bif decide (s10'<x) then xs.length≤4096∧bif (↑(hits xs s10' s8).length:Int)==0 then (o2'.length+1)*1≤140737488355328∧J1 (f12_head2 xs x y s8 o1 (IntKind.i64.wrap (s10'+1)) (o2'++[46])) else 0≤IntKind.i64.wrap ((↑(hits xs s10' s8).length:Int)-1)∧IntKind.i64.wrap ((↑(hits xs s10' s8).length:Int)-1)<(↑(hits xs s10' s8).length:Int)∧(36:Int)≠0∧bif decide (Int.tmod ((hits xs s10' s8).getD (IntKind.i64.wrap ((↑(hits xs s10' s8).length:Int)-1)).toNat 0) 36<10) then (o2'.length+1)*1≤140737488355328∧J1 (f12_head2 xs x y s8 o1 (IntKind.i64.wrap (s10'+1)) (o2'++[IntKind.u8.wrap (IntKind.i64.wrap (48+Int.tmod ((hits xs s10' s8).getD (IntKind.i64.wrap ((↑(hits xs s10' s8).length:Int)-1)).toNat 0) 36))])) else (o2'.length+1)*1≤140737488355328∧J1 (f12_head2 xs x y s8 o1 (IntKind.i64.wrap (s10'+1)) (o2'++[IntKind.u8.wrap (IntKind.i64.wrap (87+Int.tmod ((hits xs s10' s8).getD (IntKind.i64.wrap ((↑(hits xs s10' s8).length:Int)-1)).toNat 0) 36))])) else (o1.length+1)*16≤140737488355328∧J (f12_head1 xs x y (IntKind.i64.wrap (s8+1)) (o1++[toBytes o2']))
theorem f12_eq2 (R:AV→List Ob→Prop) (xs:List T4.den) (x:Int) (y:Int) (s8:Int) (o1:List ByteArray) (J:St→Prop) (J1:St→Prop) (s10':Int) (o2':List Int):codeA tab eG2 (subC [1,1,0,1,0,0,1,0,0,1,0,1,0,0] (bodyOf Tryd.f12)) f12_live2 (f12_head2 xs x y s8 o1 s10' o2') (thenA (fun s=>J1 (St.tidy f12_live2 s)) (f12_q2 R J))=f12_rhs2 R xs x y s8 o1 J J1 s10' o2':=by kernel_rfl
set_option maxHeartbeats 2000000 in
theorem f12_rule2 (R:AV→List Ob→Prop) (xs:List T4.den) (x:Int) (y:Int) (s8:Int) (o1:List ByteArray) (J:St→Prop) (I:Nat→(Int)→(List Int)→Prop) (n:Nat) (s10':Int) (o2':List Int) (h0:I n s10' o2') (h:∀n,∀(s10':Int) (o2':List Int),I n s10' o2'→f12_rhs2 R xs x y s8 o1 J (fun t=>∃m,m<n∧∃(s10':Int) (o2':List Int),t=f12_head2 xs x y s8 o1 s10' o2'∧I m s10' o2') s10' o2'):f12_loop2 R xs x y s8 o1 J s10' o2':=
 loop_intro (fun n t=>∃(s10':Int) (o2':List Int),t=f12_head2 xs x y s8 o1 s10' o2'∧I n s10' o2') n ⟨s10',o2',rfl,h0⟩ (fun n t ht=>by obtain⟨s10',o2',rfl,hI⟩:=ht;exact Eq.mpr (f12_eq2 R xs x y s8 o1 J (fun t=>∃m,m<n∧∃(s10':Int) (o2':List Int),t=f12_head2 xs x y s8 o1 s10' o2'∧I m s10' o2') s10' o2') (h n s10' o2' hI))
def f12_rhs1 (R:AV→List Ob→Prop) (xs:List T4.den) (x:Int) (y:Int) (J:St→Prop) (s8:Int) (o1:List ByteArray):Prop:=bif decide (s8<y) then f12_loop2 R xs x y s8 o1 J 0 [] else R (AV.row 0) [Ob.row 9 Ty.str o1]
theorem f12_eq1 (R:AV→List Ob→Prop) (xs:List T4.den) (x:Int) (y:Int) (J:St→Prop) (s8:Int) (o1:List ByteArray):codeA tab eG2 (subC [1,1,0,1,0,0] (bodyOf Tryd.f12)) f12_live1 (f12_head1 xs x y s8 o1) (thenA (fun s=>J (St.tidy f12_live1 s)) (f12_q1 R))=f12_rhs1 R xs x y J s8 o1:=by kernel_rfl
set_option maxHeartbeats 2000000 in
theorem f12_rule1 (R:AV→List Ob→Prop) (xs:List T4.den) (x:Int) (y:Int) (I:Nat→(Int)→(List ByteArray)→Prop) (n:Nat) (s8:Int) (o1:List ByteArray) (h0:I n s8 o1) (h:∀n,∀(s8:Int) (o1:List ByteArray),I n s8 o1→f12_rhs1 R xs x y (fun t=>∃m,m<n∧∃(s8:Int) (o1:List ByteArray),t=f12_head1 xs x y s8 o1∧I m s8 o1) s8 o1):f12_loop1 R xs x y s8 o1:=
 loop_intro (fun n t=>∃(s8:Int) (o1:List ByteArray),t=f12_head1 xs x y s8 o1∧I n s8 o1) n ⟨s8,o1,rfl,h0⟩ (fun n t ht=>by obtain⟨s8,o1,rfl,hI⟩:=ht;exact Eq.mpr (f12_eq1 R xs x y (fun t=>∃m,m<n∧∃(s8:Int) (o1:List ByteArray),t=f12_head1 xs x y s8 o1∧I m s8 o1) s8 o1) (h n s8 o1 hI))
theorem f12_run (R:AV→List Ob→Prop) (xs:List T4.den) (x y:Int):fnA tab eG2 Tryd.f12 (bodyOf Tryd.f12) [.list 30 T4 xs,.int .i64 x,.int .i64 y] R=(f12_loop1 R xs x y 0 []):=by kernel_rfl
theorem ok12:ConOk Tryd.prog (12,con12):=by
 intro args t h hp
 change con12 args=some t at h
 unfold con12 at h
 split at h
 · rename_i xs x y
   change List T4.den at xs
   cases h
   refine fn_ok envG2 tab_ok mixed Tryd.func12 (by kernel_rfl) (by kernel_rfl) ?_
   rw[f12_run]
   try dsimp only
   rw[blk_eq (pic xs x y)]
   have hm:=hp (xs.length≤4096) (by simp)
   have hx:=hp (x≤4096) (by simp)
   have hy:=hp (y≤4096) (by simp)
   refine f12_rule1 _ xs x y (fun n i o=>∃j:Nat,j≤y.toNat∧n=y.toNat-j∧i=j∧o=(List.range j).map fun j:Nat=>toBytes (picRow xs (j:Int) x.toNat)) y.toNat 0 [] ⟨0,by omega,by simp,rfl,rfl⟩ ?_
   rintro n i o ⟨j,hj,rfl,rfl,rfl⟩
   unfold f12_rhs1
   refine dec_split (fun hlt => ?_) (fun hlt => ?_)
   · refine f12_rule2 _ xs x y j _ _ (fun n i o=>∃k:Nat,k≤x.toNat∧n=x.toNat-k∧i=k∧o=picRow xs (j:Int) k) x.toNat 0 [] ⟨0,by omega,by simp,rfl,rfl⟩ ?_
     rintro n i o ⟨k,hk,rfl,rfl,rfl⟩
     unfold f12_rhs2
     have hpl:=picRow_len xs (j:Int) k
     refine dec_split (fun hlt2=>⟨hm,?_⟩) (fun hlt2 => ?_)
     · have hl:=hitsTo_len xs (k:Int) (j:Int) xs.length
       have hl:(hits xs (k:Int) (j:Int)).length≤xs.length:=hl
       rw[wrap_next k x.toNat (by omega) (by simp only[maxLen];omega)]
       refine cond_split (fun hc=>⟨by omega,x.toNat-(k+1),by omega,_,_,rfl,k+1,by omega,rfl,rfl,?_⟩) (fun hc => ?_)
       · rw[picRow_next,sgn,hc,cond_true]
       · have hne:(hits xs (k:Int) (j:Int)).length≠0:=by intro h;rw[h] at hc;simp at hc
         have hbd:=last_bd xs (k:Int) (j:Int) hne
         rw[wrap_id (((hits xs (k:Int) (j:Int)).length:Int)-1) (by omega),show (((hits xs (k:Int) (j:Int)).length:Int)-1).toNat=(hits xs (k:Int) (j:Int)).length-1 by omega]
         have hs:sgn (hits xs (k:Int) (j:Int))=dgt (((hits xs (k:Int) (j:Int)).getD ((hits xs (k:Int) (j:Int)).length-1) 0).tmod 36):=by rw[sgn,hc,cond_false]
         generalize ((hits xs (k:Int) (j:Int)).getD ((hits xs (k:Int) (j:Int)).length-1) 0).tmod 36=d at hbd hs
         refine⟨by omega,by omega,by decide,dec_split (fun hd=>⟨by omega,x.toNat-(k+1),by omega,_,_,rfl,k+1,by omega,rfl,rfl,?_⟩) (fun hd=>⟨by omega,x.toNat-(k+1),by omega,_,_,rfl,k+1,by omega,rfl,rfl,?_⟩)⟩
         · rw[picRow_next,hs,dgt,decide_eq_true hd,cond_true,wrap_id _ (by omega),u8_id _ (by omega)]
         · rw[picRow_next,hs,dgt,decide_eq_false hd,cond_false,wrap_id _ (by omega),u8_id _ (by omega)]
     · have hkx:k=x.toNat:=by omega
       subst hkx
       refine⟨by rw[List.length_map,List.length_range];omega,y.toNat-(j+1),by omega,_,_,rfl,j+1,by omega,rfl,wrap_next j y.toNat (by omega) (by simp only[maxLen];omega),?_⟩
       rw[List.range_succ,List.map_append]
       rfl
   · have e:j=y.toNat:=by omega
     subst e
     exact⟨rfl,rfl⟩
 · cases h
def consG3:Cons:=(11,con11)::(12,con12)::consG2
def twosG3:Cons2:=twosG2
def pansG3:Cons3:=pansG2
def itersG3:Cons4:=itersG2
abbrev eG3:Env:=envOf4 consG3 twosG3 pansG3 itersG3
theorem allconsG3:∀c∈consG3,ConOk Tryd.prog c:=all_cons ok11 (all_cons ok12 allconsG2)
theorem alltwosG3:∀c∈twosG3,ConOk2 Tryd.prog c:=alltwosG2
theorem allpansG3:∀c∈pansG3,ConOk3 Tryd.prog c:=allpansG2
theorem allitersG3:∀c∈itersG3,ConOk4 Tryd.prog c:=allitersG2
theorem envG3:EnvOk Tryd.prog eG3:=envOf4_ok _ _ _ _ allconsG3 alltwosG3 allpansG3 allitersG3
end
end Go.Proofs.YtkpjcmiijlpcaaaDoor.W
set_option linter.unusedVariables false
set_option linter.unusedSimpArgs false
namespace Go.Proofs.YtkpjcmiijlpcaaaDoor.W
open Go Go.Proofs Go.Proofs.YtkpjcmiijlpcaaaDoor.Aw
noncomputable section
theorem pic_speaks:pic [(0,0,3,1)] 4 1=[⟨#[48,48,48,46]⟩]:=by
 have h:picRow [(0,0,3,1)] 0 4=[48,48,48,46]:=by decide
 show [toBytes (picRow [(0,0,3,1)] 0 4)]=_
 rw[h,toBytes_mk]
 rfl
def con7:List AV→Option Tells
 | []=>some ⟨[],.bool true,[]⟩
 | _=>none
theorem f7_run (R:AV→List Ob→Prop):fnA tab eG3 Tryd.f7 (bodyOf Tryd.f7) [] R=(Nat.le 1 4096∧true=true∧(4:Int)≤4096∧(1:Int)≤4096∧bif (↑(blk (pic [(0,0,3,1)] 4 1)).length:Int)==1 then (0:Int)≤0∧0<(↑(blk (pic [(0,0,3,1)] 4 1)).length:Int)∧bif ByteArray.toList ((blk (pic [(0,0,3,1)] 4 1)).getD 0 (ByteArray.mk #[]))==(ByteArray.mk #[48,48,48,46]).toList then R (AV.bool true) [] else R (AV.bool false) [] else R (AV.bool false) []):=by kernel_rfl
theorem ok7:ConOk Tryd.prog (7,con7):=by
 intro args t h hp
 change con7 args=some t at h
 unfold con7 at h
 split at h
 · skip
   cases h
   refine fn_ok envG3 tab_ok mixed Tryd.func7 (by kernel_rfl) (by kernel_rfl) ?_
   rw[f7_run]
   try dsimp only
   refine⟨by show 1≤4096;omega,rfl,by decide,by decide,?_⟩
   rw[blk_eq,pic_speaks]
   simp[bytes_eq]
 · cases h
def consG4:Cons:=(7,con7)::consG3
def twosG4:Cons2:=twosG3
def pansG4:Cons3:=pansG3
def itersG4:Cons4:=itersG3
abbrev eG4:Env:=envOf4 consG4 twosG4 pansG4 itersG4
theorem allconsG4:∀c∈consG4,ConOk Tryd.prog c:=all_cons ok7 allconsG3
theorem alltwosG4:∀c∈twosG4,ConOk2 Tryd.prog c:=alltwosG3
theorem allpansG4:∀c∈pansG4,ConOk3 Tryd.prog c:=allpansG3
theorem allitersG4:∀c∈itersG4,ConOk4 Tryd.prog c:=allitersG3
theorem envG4:EnvOk Tryd.prog eG4:=envOf4_ok _ _ _ _ allconsG4 alltwosG4 allpansG4 allitersG4
theorem pic_len (xs:List Rc4) (x y:Int):(pic xs x y).length=y.toNat:=by simp[pic]
end
end Go.Proofs.YtkpjcmiijlpcaaaDoor.W
