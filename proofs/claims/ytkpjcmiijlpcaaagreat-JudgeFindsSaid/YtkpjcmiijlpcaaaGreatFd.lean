/- The functions of layer 7 (walk), and what they come to. -/
import Derived.Test.YtkpjcmiijlpcaaaGreatEa
import Derived.Test.YtkpjcmiijlpcaaaGreatAwAF
import Derived.Test.YtkpjcmiijlpcaaaGreatAwAH
import Derived.KernelRfl
set_option linter.unusedVariables false
set_option linter.unusedSimpArgs false
namespace Go.Proofs.YtkpjcmiijlpcaaaGreat.W
open Go Go.Proofs Go.Proofs.YtkpjcmiijlpcaaaGreat.Aw
noncomputable section
abbrev TE:Ty:=.pair (.int .i64) .bool
abbrev Ev:=Int×Bool
def consJ0:Cons:=(58,con58_b)::(13,con13)::(44,con44)::[]
def twosJ0:Cons2:=[]
def pansJ0:Cons3:=[]
def itersJ0:Cons4:=[]
abbrev eJ0:Env:=envOf4 consJ0 twosJ0 pansJ0 itersJ0
theorem allconsJ0:∀c∈consJ0,ConOk Tryz.prog c:=all_cons ok58_b (all_cons ok13 (all_cons ok44 all_nil))
theorem alltwosJ0:∀c∈twosJ0,ConOk2 Tryz.prog c:=all_nil
theorem allpansJ0:∀c∈pansJ0,ConOk3 Tryz.prog c:=all_nil
theorem allitersJ0:∀c∈itersJ0,ConOk4 Tryz.prog c:=all_nil
theorem envJ0:EnvOk Tryz.prog eJ0:=envOf4_ok _ _ _ _ allconsJ0 alltwosJ0 allpansJ0 allitersJ0
def con110:List AV→Option Tells
 | [.list 3 (.int .i64) xs]=>some ⟨[],.fn (.func 111) .nl (.cons (.ptr 0 0) .nl),[.cells 89 [.list 3 (.int .i64) xs]]⟩
 | _=>none
theorem f110_run (R:AV→List Ob→Prop) (xs:List (Ty.int .i64).den):fnA tab eJ0 Tryz.f110 (bodyOf Tryz.f110) [.list 3 (.int .i64) xs] R=(R (AV.fn (Fn.func 111) AV.nl ((AV.ptr 0 0).cons AV.nl)) [Ob.cells 89 [AV.list 3 KI xs]]):=by kernel_rfl
theorem ok110:ConOk Tryz.prog (110,con110):=by
 intro args t h hp
 change con110 args=some t at h
 unfold con110 at h
 split at h
 · rename_i xs
   change List (Ty.int .i64).den at xs
   cases h
   refine fn_ok envJ0 tab_ok mixed Tryz.func110 (by kernel_rfl) (by kernel_rfl) ?_
   rw[f110_run]
   try dsimp only
   exact⟨rfl,rfl⟩
 · cases h
def con111:List AV→List AV→List Ob→Option TellsI
 | [],[.ptr 0 0],[.cells 89 [.list 3 (.int .i64) xs]]=>some ⟨[xs.length≤65536],xs.length,fun i=>[.int .i64 ((xs.length:Int)-1-i),.int .i64 (xs.getD (xs.length-1-i) 0)]⟩
 | _,_,_=>none
def f111_live1:List Nat:=[3,0,3,1,3,3]
def f111_head1 (xs:List KI.den) (l:Nat) (s3:Int) (y:Nat):St:={slots:=[AV.fn (Fn.yield l) AV.nl AV.nl,AV.ptr 0 0,AV.undef,AV.int .i64 s3]++List.replicate 15 AV.undef,obs:=[Ob.cells 89 [AV.list 3 KI xs]],n:=1,y:=y}
def f111_q1 (xs:List KI.den):Ex→St→Prop:=blockA 0 (endI tab Tryz.f111 xs.length)
def f111_loop1 (xs:List KI.den) (l:Nat) (s3:Int) (y:Nat):Prop:=loopT f111_live1 (codeA tab (eJ0.it l xs.length fun i=>[AV.int .i64 ((↑xs.length:Int)-1-(↑i:Int)),AV.int .i64 (xs.getD (xs.length-1-i) 0)]) (subC [1,0,0] (bodyOf Tryz.f111)) f111_live1) (f111_head1 xs l s3 y) (f111_q1 xs)
def f111_rhs1 (xs:List KI.den) (l:Nat) (J:St→Prop) (s3:Int) (y:Nat):Prop:=bif decide (s3≥0) then 0≤s3∧s3<(↑xs.length:Int)∧l=l∧false=false∧y<xs.length∧[AV.int .i64 s3,AV.int .i64 (xs.getD s3.toNat 0)]=[AV.int .i64 ((↑xs.length:Int)-1-(↑y:Int)),AV.int .i64 (xs.getD (xs.length-1-y) 0)]∧J (f111_head1 xs l (IntKind.i64.wrap (s3-1)) (y+1))∧true=true∧(true=true∨y+1=xs.length) else true=true∧(false=true∨y=xs.length)
theorem f111_eq1 (xs:List KI.den) (l:Nat) (J:St→Prop) (s3:Int) (y:Nat):codeA tab (eJ0.it l xs.length fun i=>[AV.int .i64 ((↑xs.length:Int)-1-(↑i:Int)),AV.int .i64 (xs.getD (xs.length-1-i) 0)]) (subC [1,0,0] (bodyOf Tryz.f111)) f111_live1 (f111_head1 xs l s3 y) (thenA (fun s=>J (St.tidy f111_live1 s)) (f111_q1 xs))=f111_rhs1 xs l J s3 y:=by kernel_rfl
set_option maxHeartbeats 2000000 in
theorem f111_rule1 (xs:List KI.den) (l:Nat) (I:Nat→(Int)→(Nat)→Prop) (n:Nat) (s3:Int) (y:Nat) (h0:I n s3 y) (h:∀n,∀(s3:Int) (y:Nat),I n s3 y→f111_rhs1 xs l (fun t=>∃m,m<n∧∃(s3:Int) (y:Nat),t=f111_head1 xs l s3 y∧I m s3 y) s3 y):f111_loop1 xs l s3 y:=
 loop_intro (fun n t=>∃(s3:Int) (y:Nat),t=f111_head1 xs l s3 y∧I n s3 y) n ⟨s3,y,rfl,h0⟩ (fun n t ht=>by obtain⟨s3,y,rfl,hI⟩:=ht;exact Eq.mpr (f111_eq1 xs l (fun t=>∃m,m<n∧∃(s3:Int) (y:Nat),t=f111_head1 xs l s3 y∧I m s3 y) s3 y) (h n s3 y hI))
theorem f111_run (xs:List (Ty.int .i64).den) (l:Nat):fnI tab eJ0 Tryz.f111 (bodyOf Tryz.f111) [] [.ptr 0 0] [.cells 89 [.list 3 (.int .i64) xs]] l (xs.length) (fun i=>[.int .i64 ((xs.length:Int)-1-i),.int .i64 (xs.getD (xs.length-1-i) 0)])=(f111_loop1 xs l (IntKind.i64.wrap ((↑xs.length:Int)-1)) 0):=by kernel_rfl
set_option maxRecDepth 100000 in
theorem ok111:ConOk4 Tryz.prog (111,con111):=by
 intro args caps obs t h hp
 change con111 args caps obs=some t at h
 unfold con111 at h
 split at h
 · rename_i xs
   change List (Ty.int .i64).den at xs
   cases h
   refine fn_okI envJ0 tab_ok mixed Tryz.func111 (by kernel_rfl) (by kernel_rfl) ?_
   intro l
   rw[f111_run]
   try dsimp only
   have hx:=hp (xs.length≤65536) (by simp)
   refine f111_rule1 xs _ (fun n i y=>∃k:Nat,k≤xs.length∧n=xs.length-k∧i=(xs.length:Int)-1-k∧y=k) xs.length _ _ ⟨0,by omega,by simp,by rw[wrap_id _ (by omega)];simp,rfl⟩ ?_
   rintro n i y ⟨k,hk,rfl,rfl,rfl⟩
   unfold f111_rhs1
   refine dec_split (fun hge=>⟨hge,by omega,rfl,rfl,by omega,?_,⟨xs.length-(y+1),by omega,_,_,rfl,y+1,by omega,rfl,by rw[wrap_id _ (by omega)];push_cast;omega,rfl⟩,rfl,.inl rfl⟩) (fun h=>⟨rfl,.inr (by omega)⟩)
   rw[show ((xs.length:Int)-1-y).toNat=xs.length-1-y by omega]
 · cases h
def consJ1:Cons:=(110,con110)::consJ0
def twosJ1:Cons2:=twosJ0
def pansJ1:Cons3:=pansJ0
def itersJ1:Cons4:=(111,con111)::itersJ0
abbrev eJ1:Env:=envOf4 consJ1 twosJ1 pansJ1 itersJ1
theorem allconsJ1:∀c∈consJ1,ConOk Tryz.prog c:=all_cons ok110 allconsJ0
theorem alltwosJ1:∀c∈twosJ1,ConOk2 Tryz.prog c:=alltwosJ0
theorem allpansJ1:∀c∈pansJ1,ConOk3 Tryz.prog c:=allpansJ0
theorem allitersJ1:∀c∈itersJ1,ConOk4 Tryz.prog c:=all_cons ok111 allitersJ0
theorem envJ1:EnvOk Tryz.prog eJ1:=envOf4_ok _ _ _ _ allconsJ1 alltwosJ1 allpansJ1 allitersJ1
def con108:List AV→List Ob→Option Tells2
 | [.ptr 0 0,.list 3 (.int .i64) l],[.cells 164 [.lptr 88 (.list 92 (.pair (.pair (.int .i64) (.pair (.int .i64) (.pair (.int .i64) (.pair (.int .i64) (.pair (.int .i64) (.pair (.int .i64) (.pair (.pair (.int .i64) (.pair (.int .i64) (.pair (.int .i64) (.int .i64)))) (.pair (.int .i64) (.pair (.int .i64) (.pair (.int .i64) (.int .i64))))))))))) (.pair (.int .i64) (.pair (.int .i64) (.pair (.int .i64) (.list 3 (.int .i64))))))) [xs] 0 0,.row 1,.fn (.func 104) .nl (.cons (.ptr 2 0) .nl)],.row 142 (.pair (.int .i64) .bool) st,.cells 27 [.lptr 88 (.list 92 (.pair (.pair (.int .i64) (.pair (.int .i64) (.pair (.int .i64) (.pair (.int .i64) (.pair (.int .i64) (.pair (.int .i64) (.pair (.pair (.int .i64) (.pair (.int .i64) (.pair (.int .i64) (.int .i64)))) (.pair (.int .i64) (.pair (.int .i64) (.pair (.int .i64) (.int .i64))))))))))) (.pair (.int .i64) (.pair (.int .i64) (.pair (.int .i64) (.list 3 (.int .i64))))))) [ys] 0 0]]=>some ⟨[st.length≤4294967296,l.length≤65536],.tuple .nl,[some (.cells 164 [.lptr 88 (.list 92 TN) [xs] 0 0,.row 3,.fn (.func 104) .nl (.cons (.ptr 2 0) .nl)]),some .dead,none],[.row 142 TE (st++l.reverse.map fun i=>(i,false))]⟩
 | _,_=>none
def f108_live1:List Nat:=[9,2,2,5]
def f108_head1 (xs:List TN.den) (ys:List TN.den) (o3:List (Int×Bool)):St:={slots:=[AV.undef,AV.undef,AV.ptr 4 0]++List.replicate 18 AV.undef,obs:=[Ob.cells 164 [AV.lptr 88 (Ty.list 92 TN) [xs] 0 0,AV.row 3,AV.fn (Fn.func 104) AV.nl ((AV.ptr 2 0).cons AV.nl)],Ob.dead,Ob.cells 27 [AV.lptr 88 (Ty.list 92 TN) [ys] 0 0],Ob.row 142 (KI.pair Ty.bool) o3,Ob.cells 161 [AV.ptr 0 0]],n:=3}
def f108_q1 (R:AV→List Ob→Prop):Ex→St→Prop:=blockA 0 (endA tab Tryz.f108 R)
def f108_run1 (l:List KI.den):Nat→St→(Ex→St→Prop)→Prop:=fun i t K=>[AV.int .i64 ((↑l.length:Int)-1-(↑i:Int)),AV.int .i64 (l.getD (l.length-1-i) 0)].length=[8,9].length∧codeA tab eJ1 (subC [1,1,0,0] (bodyOf Tryz.f108)) [2,2,5,9] (roundSt [8,9] [AV.int .i64 ((↑l.length:Int)-1-(↑i:Int)),AV.int .i64 (l.getD (l.length-1-i) 0)] t) (seqN tab eJ1 (subC [1,1,0,1] (bodyOf Tryz.f108)) [9,2,2,5] K)
def f108_range1 (R:AV→List Ob→Prop) (l:List KI.den) (xs:List TN.den) (ys:List TN.den) (o3:List (Int×Bool)):Prop:=rangeT f108_live1 (f108_run1 l) l.length (f108_head1 xs ys o3) (f108_q1 R)
def f108_rhs1 (R:AV→List Ob→Prop) (l:List KI.den) (xs:List TN.den) (ys:List TN.den) (J:Nat→St→Prop) (i:Nat) (o3:List (Int×Bool)):Prop:=[AV.int .i64 ((↑l.length:Int)-1-(↑i:Int)),AV.int .i64 (l.getD (l.length-1-i) 0)].length=[8,9].length∧(o3.length+1)*16≤140737488355328∧J (i+1) (f108_head1 xs ys (o3++[(l.getD (l.length-1-i) 0,false)]))
theorem f108_eq1 (R:AV→List Ob→Prop) (l:List KI.den) (xs:List TN.den) (ys:List TN.den) (J:Nat→St→Prop) (i:Nat) (o3:List (Int×Bool)):f108_run1 l i (f108_head1 xs ys o3) (roundK f108_live1 J (f108_q1 R) i (f108_head1 xs ys o3))=f108_rhs1 R l xs ys J i o3:=by kernel_rfl
def f108_end1 (R:AV→List Ob→Prop) (l:List KI.den) (xs:List TN.den) (ys:List TN.den) (o3:List (Int×Bool)):Prop:=R AV.nl.tuple [Ob.cells 164 [AV.lptr 88 (Ty.list 92 TN) [xs] 0 0,AV.row 3,AV.fn (Fn.func 104) AV.nl ((AV.ptr 2 0).cons AV.nl)],Ob.dead,Ob.cells 27 [AV.lptr 88 (Ty.list 92 TN) [ys] 0 0],Ob.row 142 (KI.pair Ty.bool) o3]
theorem f108_eqe1 (R:AV→List Ob→Prop) (l:List KI.den) (xs:List TN.den) (ys:List TN.den) (o3:List (Int×Bool)):f108_q1 R Ex.normal (f108_head1 xs ys o3)=f108_end1 R l xs ys o3:=by kernel_rfl
set_option maxHeartbeats 2000000 in
theorem f108_rule1 (R:AV→List Ob→Prop) (l:List KI.den) (xs:List TN.den) (ys:List TN.den) (I:Nat→(List (Int×Bool))→Prop) (o3:List (Int×Bool)) (h0:I 0 o3) (h:∀i,∀(o3:List (Int×Bool)),i<l.length→I i o3→f108_rhs1 R l xs ys (fun n t=>∃(o3:List (Int×Bool)),t=f108_head1 xs ys o3∧I n o3) i o3) (hend:∀(o3:List (Int×Bool)),I (l.length) o3→f108_end1 R l xs ys o3):f108_range1 R l xs ys o3:=
 range_intro (fun n t=>∃(o3:List (Int×Bool)),t=f108_head1 xs ys o3∧I n o3) ⟨o3,rfl,h0⟩ (fun i t hi ht=>by obtain⟨o3,rfl,hI⟩:=ht;exact Eq.mpr (f108_eq1 R l xs ys (fun n t=>∃(o3:List (Int×Bool)),t=f108_head1 xs ys o3∧I n o3) i o3) (h i o3 hi hI)) (fun t ht=>by obtain⟨o3,rfl,hI⟩:=ht;exact Eq.mpr (f108_eqe1 R l xs ys o3) (hend o3 hI))
theorem f108_run (R:AV→List Ob→Prop) (l:List (Ty.int .i64).den) (xs:List TN.den) (st:List TE.den) (ys:List TN.den):fnM tab eJ1 Tryz.f108 (bodyOf Tryz.f108) [.ptr 0 0,.list 3 (.int .i64) l] [.cells 164 [.lptr 88 (.list 92 TN) [xs] 0 0,.row 1,.fn (.func 104) .nl (.cons (.ptr 2 0) .nl)],.row 142 TE st,.cells 27 [.lptr 88 (.list 92 TN) [ys] 0 0]] 1 R=(l.length≤65536∧f108_range1 R l xs ys st):=by kernel_rfl
theorem ok108:ConOk2 Tryz.prog (108,con108):=by
 intro args obs t h hp
 change con108 args obs=some t at h
 unfold con108 at h
 split at h
 · rename_i l xs st ys
   change List (Ty.int .i64).den at l
   change List TN.den at xs
   change List TE.den at st
   change List TN.den at ys
   cases h
   refine fn_ok2M envJ1 tab_ok mixed Tryz.func108 (by kernel_rfl) (by kernel_rfl) 1 (by simp) ?_
   rw[f108_run]
   try dsimp only
   have h1:=hp (st.length≤4294967296) (by simp)
   have h2:=hp (l.length≤65536) (by simp)
   clear hp
   refine⟨h2,?_⟩
   refine f108_rule1 _ l xs ys (fun i o=>i≤l.length∧o=st++(l.reverse.take i).map fun i=>(i,false)) st ⟨Nat.zero_le _,by simp⟩ ?_ ?_
   · rintro i o hi ⟨_,rfl⟩
     unfold f108_rhs1
     refine⟨rfl,?_,_,rfl,by omega,?_⟩
     · simp only[List.length_append,List.length_map,List.length_take,List.length_reverse];omega
     · rw[take_next l.reverse i (by simpa using hi),List.map_append,←List.append_assoc,List.getElem_reverse,getD_nat' l 0 _ (by omega)]
       rfl
   · rintro o ⟨_,rfl⟩
     unfold f108_end1
     rw[List.take_of_length_le (by simp)]
     exact⟨rfl,rfl⟩
 · cases h
def con108_n:List AV→List Ob→Option Tells2
 | [.ptr 0 0,.list 3 (.int .i64) l],[.cells 164 [.lptr 88 (.list 92 (.pair (.pair (.int .i64) (.pair (.int .i64) (.pair (.int .i64) (.pair (.int .i64) (.pair (.int .i64) (.pair (.int .i64) (.pair (.pair (.int .i64) (.pair (.int .i64) (.pair (.int .i64) (.int .i64)))) (.pair (.int .i64) (.pair (.int .i64) (.pair (.int .i64) (.int .i64))))))))))) (.pair (.int .i64) (.pair (.int .i64) (.pair (.int .i64) (.list 3 (.int .i64))))))) [xs] 0 0,.nils 142 (.pair (.int .i64) .bool),.fn (.func 104) .nl (.cons (.ptr 1 0) .nl)],.cells 27 [.lptr 88 (.list 92 (.pair (.pair (.int .i64) (.pair (.int .i64) (.pair (.int .i64) (.pair (.int .i64) (.pair (.int .i64) (.pair (.int .i64) (.pair (.pair (.int .i64) (.pair (.int .i64) (.pair (.int .i64) (.int .i64)))) (.pair (.int .i64) (.pair (.int .i64) (.pair (.int .i64) (.int .i64))))))))))) (.pair (.int .i64) (.pair (.int .i64) (.pair (.int .i64) (.list 3 (.int .i64))))))) [ys] 0 0]]=>some ⟨[l.length≤65536],.tuple .nl,[some (.cells 164 [.lptr 88 (.list 92 TN) [xs] 0 0,.row 2,.fn (.func 104) .nl (.cons (.ptr 1 0) .nl)]),none],[.row 142 TE (l.reverse.map fun i=>(i,false))]⟩
 | _,_=>none
def f108_n_live1:List Nat:=[9,2,2,5]
def f108_n_head1 (xs:List TN.den) (ys:List TN.den) (o2:List (Int×Bool)):St:={slots:=[AV.undef,AV.undef,AV.ptr 3 0]++List.replicate 18 AV.undef,obs:=[Ob.cells 164 [AV.lptr 88 (Ty.list 92 TN) [xs] 0 0,AV.row 2,AV.fn (Fn.func 104) AV.nl ((AV.ptr 1 0).cons AV.nl)],Ob.cells 27 [AV.lptr 88 (Ty.list 92 TN) [ys] 0 0],Ob.row 142 (KI.pair Ty.bool) o2,Ob.cells 161 [AV.ptr 0 0]],n:=2}
def f108_n_q1 (R:AV→List Ob→Prop):Ex→St→Prop:=blockA 0 (endA tab Tryz.f108 R)
def f108_n_run1 (l:List KI.den):Nat→St→(Ex→St→Prop)→Prop:=fun i t K=>[AV.int .i64 ((↑l.length:Int)-1-(↑i:Int)),AV.int .i64 (l.getD (l.length-1-i) 0)].length=[8,9].length∧codeA tab eJ1 (subC [1,1,0,0] (bodyOf Tryz.f108)) [2,2,5,9] (roundSt [8,9] [AV.int .i64 ((↑l.length:Int)-1-(↑i:Int)),AV.int .i64 (l.getD (l.length-1-i) 0)] t) (seqN tab eJ1 (subC [1,1,0,1] (bodyOf Tryz.f108)) [9,2,2,5] K)
def f108_n_range1 (R:AV→List Ob→Prop) (l:List KI.den) (xs:List TN.den) (ys:List TN.den) (o2:List (Int×Bool)):Prop:=rangeT f108_n_live1 (f108_n_run1 l) l.length (f108_n_head1 xs ys o2) (f108_n_q1 R)
def f108_n_rhs1 (R:AV→List Ob→Prop) (l:List KI.den) (xs:List TN.den) (ys:List TN.den) (J:Nat→St→Prop) (i:Nat) (o2:List (Int×Bool)):Prop:=[AV.int .i64 ((↑l.length:Int)-1-(↑i:Int)),AV.int .i64 (l.getD (l.length-1-i) 0)].length=[8,9].length∧(o2.length+1)*16≤140737488355328∧J (i+1) (f108_n_head1 xs ys (o2++[(l.getD (l.length-1-i) 0,false)]))
theorem f108_n_eq1 (R:AV→List Ob→Prop) (l:List KI.den) (xs:List TN.den) (ys:List TN.den) (J:Nat→St→Prop) (i:Nat) (o2:List (Int×Bool)):f108_n_run1 l i (f108_n_head1 xs ys o2) (roundK f108_n_live1 J (f108_n_q1 R) i (f108_n_head1 xs ys o2))=f108_n_rhs1 R l xs ys J i o2:=by kernel_rfl
def f108_n_end1 (R:AV→List Ob→Prop) (l:List KI.den) (xs:List TN.den) (ys:List TN.den) (o2:List (Int×Bool)):Prop:=R AV.nl.tuple [Ob.cells 164 [AV.lptr 88 (Ty.list 92 TN) [xs] 0 0,AV.row 2,AV.fn (Fn.func 104) AV.nl ((AV.ptr 1 0).cons AV.nl)],Ob.cells 27 [AV.lptr 88 (Ty.list 92 TN) [ys] 0 0],Ob.row 142 (KI.pair Ty.bool) o2]
theorem f108_n_eqe1 (R:AV→List Ob→Prop) (l:List KI.den) (xs:List TN.den) (ys:List TN.den) (o2:List (Int×Bool)):f108_n_q1 R Ex.normal (f108_n_head1 xs ys o2)=f108_n_end1 R l xs ys o2:=by kernel_rfl
set_option maxHeartbeats 2000000 in
theorem f108_n_rule1 (R:AV→List Ob→Prop) (l:List KI.den) (xs:List TN.den) (ys:List TN.den) (I:Nat→(List (Int×Bool))→Prop) (o2:List (Int×Bool)) (h0:I 0 o2) (h:∀i,∀(o2:List (Int×Bool)),i<l.length→I i o2→f108_n_rhs1 R l xs ys (fun n t=>∃(o2:List (Int×Bool)),t=f108_n_head1 xs ys o2∧I n o2) i o2) (hend:∀(o2:List (Int×Bool)),I (l.length) o2→f108_n_end1 R l xs ys o2):f108_n_range1 R l xs ys o2:=
 range_intro (fun n t=>∃(o2:List (Int×Bool)),t=f108_n_head1 xs ys o2∧I n o2) ⟨o2,rfl,h0⟩ (fun i t hi ht=>by obtain⟨o2,rfl,hI⟩:=ht;exact Eq.mpr (f108_n_eq1 R l xs ys (fun n t=>∃(o2:List (Int×Bool)),t=f108_n_head1 xs ys o2∧I n o2) i o2) (h i o2 hi hI)) (fun t ht=>by obtain⟨o2,rfl,hI⟩:=ht;exact Eq.mpr (f108_n_eqe1 R l xs ys o2) (hend o2 hI))
theorem f108_n_run (R:AV→List Ob→Prop) (l:List (Ty.int .i64).den) (xs ys:List TN.den):fnB tab eJ1 Tryz.f108 (bodyOf Tryz.f108) [.ptr 0 0,.list 3 (.int .i64) l] [.cells 164 [.lptr 88 (.list 92 TN) [xs] 0 0,.nils 142 TE,.fn (.func 104) .nl (.cons (.ptr 1 0) .nl)],.cells 27 [.lptr 88 (.list 92 TN) [ys] 0 0]] R=(l.length≤65536∧f108_n_range1 R l xs ys []):=by kernel_rfl
theorem ok108_n:ConOk2 Tryz.prog (108,con108_n):=by
 intro args obs t h hp
 change con108_n args obs=some t at h
 unfold con108_n at h
 split at h
 · rename_i l xs ys
   change List (Ty.int .i64).den at l
   change List TN.den at xs
   change List TN.den at ys
   cases h
   refine fn_ok2 envJ1 tab_ok mixed Tryz.func108 (by kernel_rfl) (by kernel_rfl) ?_
   rw[f108_n_run]
   try dsimp only
   have h2:=hp (l.length≤65536) (by simp)
   clear hp
   refine⟨h2,?_⟩
   refine f108_n_rule1 _ l xs ys (fun i o=>i≤l.length∧o=(l.reverse.take i).map fun i=>(i,false)) [] ⟨Nat.zero_le _,by simp⟩ ?_ ?_
   · rintro i o hi ⟨_,rfl⟩
     unfold f108_n_rhs1
     refine⟨rfl,?_,_,rfl,by omega,?_⟩
     · simp only[List.length_map,List.length_take,List.length_reverse];omega
     · rw[take_next l.reverse i (by simpa using hi),List.map_append,List.getElem_reverse,getD_nat' l 0 _ (by omega)]
       rfl
   · rintro o ⟨_,rfl⟩
     unfold f108_n_end1
     rw[List.take_of_length_le (by simp)]
     exact⟨rfl,rfl⟩
 · cases h
def con104:List AV→List Ob→Option Tells2
 | [.int .i64 i,.ptr 0 0],[.cells 27 [.lptr 88 (.list 92 (.pair (.pair (.int .i64) (.pair (.int .i64) (.pair (.int .i64) (.pair (.int .i64) (.pair (.int .i64) (.pair (.int .i64) (.pair (.pair (.int .i64) (.pair (.int .i64) (.pair (.int .i64) (.int .i64)))) (.pair (.int .i64) (.pair (.int .i64) (.pair (.int .i64) (.int .i64))))))))))) (.pair (.int .i64) (.pair (.int .i64) (.pair (.int .i64) (.list 3 (.int .i64))))))) [xs] 0 0]]=>some ⟨[(ndAt xs i).2.2.2.2.length≤65536],.list 3 (.int .i64) (blk (bif openB (ndAt xs i).1.2.1 then [] else (ndAt xs i).2.2.2.2)),[none],[.row 3 (.int .i64) []]⟩
 | _,_=>none
theorem f104_run (R:AV→List Ob→Prop) (i:Int) (xs:List TN.den):fnB tab eJ1 Tryz.f104 (bodyOf Tryz.f104) [.int .i64 i,.ptr 0 0] [.cells 27 [.lptr 88 (.list 92 TN) [xs] 0 0]] R=(bif blk (openB (ndAt xs i).fst.snd.fst) then R (AV.row 1) [Ob.cells 27 [AV.lptr 88 (Ty.list 92 TN) [xs] 0 0],Ob.row 3 KI []] else (ndAt xs i).snd.snd.snd.snd.length≤65536∧R (AV.list 3 KI (ndAt xs i).snd.snd.snd.snd) [Ob.cells 27 [AV.lptr 88 (Ty.list 92 TN) [xs] 0 0]]):=by kernel_rfl
theorem ok104:ConOk2 Tryz.prog (104,con104):=by
 intro args obs t h hp
 change con104 args obs=some t at h
 unfold con104 at h
 split at h
 · rename_i i xs
   change List TN.den at xs
   cases h
   refine fn_ok2Z envJ1 tab_ok mixed Tryz.func104 (by kernel_rfl) (by kernel_rfl) ?_
   rw[f104_run]
   try dsimp only
   have hx:=hp ((ndAt xs i).2.2.2.2.length≤65536) (by simp)
   rw[blk_eq,blk_eq]
   refine cond_split (fun h => ?_) (fun h=>⟨hx,?_⟩)
   · rw[h]
     exact⟨by simp,[],rfl,by simp,.row 1 _ _ rfl⟩
   · rw[h]
     exact⟨by simp,[.row 3 (.int .i64) []],rfl,by simp,.refl _⟩
 · cases h
def consJ2:Cons:=consJ1
def twosJ2:Cons2:=(108,con108)::(108,con108_n)::(104,con104)::twosJ1
def pansJ2:Cons3:=pansJ1
def itersJ2:Cons4:=itersJ1
abbrev eJ2:Env:=envOf4 consJ2 twosJ2 pansJ2 itersJ2
theorem allconsJ2:∀c∈consJ2,ConOk Tryz.prog c:=allconsJ1
theorem alltwosJ2:∀c∈twosJ2,ConOk2 Tryz.prog c:=all_cons ok108 (all_cons ok108_n (all_cons ok104 alltwosJ1))
theorem allpansJ2:∀c∈pansJ2,ConOk3 Tryz.prog c:=allpansJ1
theorem allitersJ2:∀c∈itersJ2,ConOk4 Tryz.prog c:=allitersJ1
theorem envJ2:EnvOk Tryz.prog eJ2:=envOf4_ok _ _ _ _ allconsJ2 alltwosJ2 allpansJ2 allitersJ2
def innW (ys:List Nd) (i:Int):List Int:=bif openB (ndAt ys i).1.2.1 then [] else (ndAt ys i).2.2.2.2
def nextW (inn:Int→List Int) (st:List Ev):List Ev:=
 bif (st.getD (st.length-1) (0,false)).2 then st.take (st.length-1) else st.take (st.length-1)++[((st.getD (st.length-1) (0,false)).1,true)]++(inn (st.getD (st.length-1) (0,false)).1).reverse.map fun i=>(i,false)
def stW (inn:Int→List Int):Nat→List Ev→List Ev
 | 0,st=>st
 | y+1,st=>nextW inn (stW inn y st)
def evW (inn:Int→List Int) (st:List Ev) (y:Nat):Ev:=(stW inn y st).getD ((stW inn y st).length-1) (0,false)
def cntW (inn:Int→List Int):Nat→List Ev→Nat
 | 0,_=>0
 | f+1,st=>bif st.isEmpty then 0 else cntW inn f (nextW inn st)+1
theorem stW_next (inn:Int→List Int):∀(y:Nat) (st:List Ev),stW inn y (nextW inn st)=stW inn (y+1) st
 | 0,_=>rfl
 | y+1,st=>by simp only[stW];rw[stW_next inn y st];rfl
theorem cntW_le (inn:Int→List Int):∀(f:Nat) (st:List Ev),cntW inn f st≤f
 | 0,_=>Nat.le_refl _
 | f+1,st=>by
  simp only[cntW]
  cases st.isEmpty with
  | true=>exact Nat.zero_le _
  | false=>exact Nat.succ_le_succ (cntW_le inn f _)
theorem cntW_ne (inn:Int→List Int):∀(f:Nat) (st:List Ev) (y:Nat),y<cntW inn f st→stW inn y st≠[]
 | 0,_,_,h=>absurd h (Nat.not_lt_zero _)
 | f+1,st,y,h=>by
  simp only[cntW] at h
  cases he:st.isEmpty with
  | true=>rw[he] at h;exact absurd h (Nat.not_lt_zero _)
  | false=>
   rw[he,cond_false] at h
   cases y with
   | zero=>intro e;rw[show stW inn 0 st=st from rfl] at e;rw[e] at he;cases he
   | succ y=>rw[←stW_next];exact cntW_ne inn f _ y (by omega)
theorem nextW_len {inn:Int→List Int} (h:∀i,(inn i).length≤65536) (st:List Ev):(nextW inn st).length≤st.length+65537:=by
 unfold nextW
 have:=h (st.getD (st.length-1) (0,false)).1
 cases (st.getD (st.length-1) (0,false)).2 with
 | true=>rw[cond_true,List.length_take];omega
 | false=>simp only[cond_false,List.length_append,List.length_take,List.length_singleton,List.length_map,List.length_reverse];omega
theorem stW_len {inn:Int→List Int} (h:∀i,(inn i).length≤65536) (st:List Ev):∀y,(stW inn y st).length≤st.length+y*65537
 | 0=>by simp[stW]
 | y+1=>by
  have h1:=nextW_len h (stW inn y st)
  have h2:=stW_len h st y
  simp only[stW]
  omega
theorem ndAt_kids {ys:List Nd} (h:∀x∈ys,x.2.2.2.2.length≤65536) (i:Int):(ndAt ys i).2.2.2.2.length≤65536:=by
 unfold ndAt
 cases hc:(bif !decide (i<0) then decide (i≥(ys.length:Int)) else true) with
 | true=>exact Nat.zero_le _
 | false=>
  have h1:¬i<0:=by
   intro h1;rw[decide_eq_true h1] at hc;cases hc
  rw[decide_eq_false h1] at hc
  have h2:¬i≥(ys.length:Int):=of_decide_eq_false hc
  exact h _ (getD_mem (by omega))
theorem innW_len {ys:List Nd} (h:∀x∈ys,x.2.2.2.2.length≤65536) (i:Int):(innW ys i).length≤65536:=by
 unfold innW
 cases openB (ndAt ys i).1.2.1 with
 | true=>exact Nat.zero_le _
 | false=>exact ndAt_kids h i
abbrev eJ2h109:Env:=eJ2.hint [] [31]
theorem envJ2h109:EnvOk Tryz.prog eJ2h109:=envJ2.hint _ _
def con109:List AV→List AV→List Ob→Option TellsI
 | [.ptr 0 0],[],[.cells 164 [.lptr 88 (.list 92 (.pair (.pair (.int .i64) (.pair (.int .i64) (.pair (.int .i64) (.pair (.int .i64) (.pair (.int .i64) (.pair (.int .i64) (.pair (.pair (.int .i64) (.pair (.int .i64) (.pair (.int .i64) (.int .i64)))) (.pair (.int .i64) (.pair (.int .i64) (.pair (.int .i64) (.int .i64))))))))))) (.pair (.int .i64) (.pair (.int .i64) (.pair (.int .i64) (.list 3 (.int .i64))))))) [xs] 0 0,.row 1,.fn (.func 104) .nl (.cons (.ptr 2 0) .nl)],.row 142 (.pair (.int .i64) .bool) st,.cells 27 [.lptr 88 (.list 92 (.pair (.pair (.int .i64) (.pair (.int .i64) (.pair (.int .i64) (.pair (.int .i64) (.pair (.int .i64) (.pair (.int .i64) (.pair (.pair (.int .i64) (.pair (.int .i64) (.pair (.int .i64) (.int .i64)))) (.pair (.int .i64) (.pair (.int .i64) (.pair (.int .i64) (.int .i64))))))))))) (.pair (.int .i64) (.pair (.int .i64) (.pair (.int .i64) (.list 3 (.int .i64))))))) [ys] 0 0]]=>some ⟨[∀x∈(ys:List Nd),x.2.2.2.2.length≤65536,st.length≤65536,stW (innW ys) (cntW (innW ys) 16384 st) st=[]],cntW (innW ys) 16384 st,fun i=>[.agg (.cons (.int .i64 ((evW (innW ys) st i).1)) (.cons (.bool (evW (innW ys) st i).2) .nl))]⟩
 | _,_,_=>none
def f109_live1:List Nat:=[0,0,0,0,0,1,0,0,0,0]
def f109_head1 (xs:List TN.den) (ys:List TN.den) (l:Nat) (o3:List (Int×Bool)) (y:Nat):St:={slots:=[AV.ptr 0 0,AV.fn (Fn.yield l) AV.nl AV.nl]++List.replicate 60 AV.undef,obs:=[Ob.cells 164 [AV.lptr 88 (Ty.list 92 TN) [xs] 0 0,AV.row 3,AV.fn (Fn.func 104) AV.nl ((AV.ptr 2 0).cons AV.nl)],Ob.dead,Ob.cells 27 [AV.lptr 88 (Ty.list 92 TN) [ys] 0 0],Ob.row 142 (KI.pair Ty.bool) o3],n:=3,y:=y}
def f109_q1 (st:List TE.den) (ys:List TN.den):Ex→St→Prop:=blockA 0 (endI tab Tryz.f109 (cntW (innW ys) 16384 st))
def f109_loop1 (xs:List TN.den) (st:List TE.den) (ys:List TN.den) (l:Nat) (o3:List (Int×Bool)) (y:Nat):Prop:=loopT f109_live1 (codeA tab (eJ2h109.it l (cntW (innW ys) 16384 st) fun i=>[((AV.int .i64 (evW (innW ys) st i).fst).cons ((AV.bool (evW (innW ys) st i).snd).cons AV.nl)).agg]) (subC [0,0] (bodyOf Tryz.f109)) f109_live1) (f109_head1 xs ys l o3 y) (f109_q1 st ys)
set_option maxHeartbeats 2000000 in
def f109_rhs1 (xs:List TN.den) (st:List TE.den) (ys:List TN.den) (l:Nat) (J:St→Prop) (o3:List (Int×Bool)) (y:Nat):Prop:=bif decide ((↑o3.length:Int)>0) then 0≤IntKind.i64.wrap ((↑o3.length:Int)-1)∧IntKind.i64.wrap ((↑o3.length:Int)-1)<(↑o3.length:Int)∧0≤IntKind.i64.wrap ((↑o3.length:Int)-1)∧IntKind.i64.wrap ((↑o3.length:Int)-1)≤(↑o3.length:Int)∧l=l∧false=false∧y<cntW (innW ys) 16384 st∧[((AV.int .i64 (o3.getD (IntKind.i64.wrap ((↑o3.length:Int)-1)).toNat (0,false)).fst).cons ((AV.bool (o3.getD (IntKind.i64.wrap ((↑o3.length:Int)-1)).toNat (0,false)).snd).cons AV.nl)).agg]=[((AV.int .i64 (evW (innW ys) st y).fst).cons ((AV.bool (evW (innW ys) st y).snd).cons AV.nl)).agg]∧(bif !(o3.getD (IntKind.i64.wrap ((↑o3.length:Int)-1)).toNat (0,false)).snd then ((List.take (IntKind.i64.wrap ((↑o3.length:Int)-1)).toNat o3).length+1)*16≤140737488355328∧(ndAt ys (o3.getD (IntKind.i64.wrap ((↑o3.length:Int)-1)).toNat (0,false)).fst).snd.snd.snd.snd.length≤65536∧(List.take (IntKind.i64.wrap ((↑o3.length:Int)-1)).toNat o3++[((o3.getD (IntKind.i64.wrap ((↑o3.length:Int)-1)).toNat (0,false)).fst,true)]).length≤4294967296∧(blk (bif openB (ndAt ys (o3.getD (IntKind.i64.wrap ((↑o3.length:Int)-1)).toNat (0,false)).fst).fst.snd.fst then [] else (ndAt ys (o3.getD (IntKind.i64.wrap ((↑o3.length:Int)-1)).toNat (0,false)).fst).snd.snd.snd.snd)).length≤65536∧J (f109_head1 xs ys l (List.take (IntKind.i64.wrap ((↑o3.length:Int)-1)).toNat o3++[((o3.getD (IntKind.i64.wrap ((↑o3.length:Int)-1)).toNat (0,false)).fst,true)]++List.map (fun i=>(i,false)) (blk (bif openB (ndAt ys (o3.getD (IntKind.i64.wrap ((↑o3.length:Int)-1)).toNat (0,false)).fst).fst.snd.fst then [] else (ndAt ys (o3.getD (IntKind.i64.wrap ((↑o3.length:Int)-1)).toNat (0,false)).fst).snd.snd.snd.snd)).reverse) (y+1)) else J (f109_head1 xs ys l (List.take (IntKind.i64.wrap ((↑o3.length:Int)-1)).toNat o3) (y+1)))∧true=true∧(true=true∨y+1=cntW (innW ys) 16384 st) else true=true∧(false=true∨y=cntW (innW ys) 16384 st)
theorem f109_eq1 (xs:List TN.den) (st:List TE.den) (ys:List TN.den) (l:Nat) (J:St→Prop) (o3:List (Int×Bool)) (y:Nat):codeA tab (eJ2h109.it l (cntW (innW ys) 16384 st) fun i=>[((AV.int .i64 (evW (innW ys) st i).fst).cons ((AV.bool (evW (innW ys) st i).snd).cons AV.nl)).agg]) (subC [0,0] (bodyOf Tryz.f109)) f109_live1 (f109_head1 xs ys l o3 y) (thenA (fun s=>J (St.tidy f109_live1 s)) (f109_q1 st ys))=f109_rhs1 xs st ys l J o3 y:=by kernel_rfl
set_option maxHeartbeats 2000000 in
theorem f109_rule1 (xs:List TN.den) (st:List TE.den) (ys:List TN.den) (l:Nat) (I:Nat→(List (Int×Bool))→(Nat)→Prop) (n:Nat) (o3:List (Int×Bool)) (y:Nat) (h0:I n o3 y) (h:∀n,∀(o3:List (Int×Bool)) (y:Nat),I n o3 y→f109_rhs1 xs st ys l (fun t=>∃m,m<n∧∃(o3:List (Int×Bool)) (y:Nat),t=f109_head1 xs ys l o3 y∧I m o3 y) o3 y):f109_loop1 xs st ys l o3 y:=
 loop_intro (fun n t=>∃(o3:List (Int×Bool)) (y:Nat),t=f109_head1 xs ys l o3 y∧I n o3 y) n ⟨o3,y,rfl,h0⟩ (fun n t ht=>by obtain⟨o3,y,rfl,hI⟩:=ht;exact Eq.mpr (f109_eq1 xs st ys l (fun t=>∃m,m<n∧∃(o3:List (Int×Bool)) (y:Nat),t=f109_head1 xs ys l o3 y∧I m o3 y) o3 y) (h n o3 y hI))
theorem f109_run (xs:List TN.den) (st:List TE.den) (ys:List TN.den) (l:Nat):fnIM tab eJ2h109 Tryz.f109 (bodyOf Tryz.f109) [.ptr 0 0] [] [.cells 164 [.lptr 88 (.list 92 TN) [xs] 0 0,.row 1,.fn (.func 104) .nl (.cons (.ptr 2 0) .nl)],.row 142 TE st,.cells 27 [.lptr 88 (.list 92 TN) [ys] 0 0]] 1 l (cntW (innW ys) 16384 st) (fun i=>[.agg (.cons (.int .i64 ((evW (innW ys) st i).1)) (.cons (.bool (evW (innW ys) st i).2) .nl))])=(f109_loop1 xs st ys l st 0):=by kernel_rfl
set_option maxRecDepth 100000 in
theorem ok109:ConOk4 Tryz.prog (109,con109):=by
 intro args caps obs t h hp
 change con109 args caps obs=some t at h
 unfold con109 at h
 split at h
 · rename_i xs st ys
   change List TN.den at xs
   change List TE.den at st
   change List TN.den at ys
   cases h
   refine fn_okIM envJ2h109 tab_ok mixed Tryz.func109 (by kernel_rfl) (by kernel_rfl) 1 (by simp) ?_
   intro l
   rw[f109_run]
   try dsimp only
   have hk:=hp (∀x∈(ys:List Nd),x.2.2.2.2.length≤65536) (by simp)
   have h0:=hp (st.length≤65536) (by simp)
   have hfin:=hp (stW (innW ys) (cntW (innW ys) 16384 st) st=[]) (by simp)
   clear hp
   have hinn:=innW_len hk
   have hN:=cntW_le (innW ys) 16384 st
   have hne:=cntW_ne (innW ys) 16384 st
   refine f109_rule1 xs st ys _ (fun n o y=>y≤cntW (innW ys) 16384 st∧n=cntW (innW ys) 16384 st-y∧o=stW (innW ys) y st) (cntW (innW ys) 16384 st) st 0 ⟨Nat.zero_le _,rfl,rfl⟩ ?_
   rintro n o y ⟨hy,rfl,rfl⟩
   unfold f109_rhs1
   generalize cntW (innW ys) 16384 st=N at hfin hN hne hy ⊢
   have hlen:(stW (innW ys) y st).length≤1073823744:=by
    have h1:=stW_len hinn st y
    have h2:y*65537≤16384*65537:=Nat.mul_le_mul_right _ (by omega)
    omega
   have hstep:stW (innW ys) (y+1) st=nextW (innW ys) (stW (innW ys) y st):=rfl
   have hev:evW (innW ys) st y=(stW (innW ys) y st).getD ((stW (innW ys) y st).length-1) (0,false):=rfl
   rw[hev]
   have hlt:(stW (innW ys) y st).length>0→y<N:=fun hpos=>by
    rcases Nat.lt_or_ge y N with h | h
    · exact h
    · have:y=N:=by omega
      rw[this,hfin] at hpos
      simp at hpos
   have hne':y<N→(stW (innW ys) y st).length>0:=fun h=>List.length_pos_iff.2 (hne y h)
   generalize stW (innW ys) y st=o at hlen hstep hlt hne' ⊢
   refine dec_split (fun hpos => ?_) (fun hno => ?_)
   · have hlt:=hlt (by omega)
     have hw:IntKind.wrap .i64 ((o.length:Int)-1)=((o.length-1:Nat):Int):=by rw[wrap_id _ (by omega)];omega
     rw[hw,Int.toNat_natCast]
     refine⟨by omega,by omega,by omega,by omega,rfl,rfl,hlt,rfl,?_,rfl,.inl rfl⟩
     have hi1:=hinn (o.getD (o.length-1) (0,false)).1
     have hi2:=ndAt_kids hk (o.getD (o.length-1) (0,false)).1
     rw[blk_eq]
     refine cond_split (fun hc => ?_) (fun hc => ?_)
     · have hc':(o.getD (o.length-1) (0,false)).2=false:=by simpa using hc
       refine⟨by rw[List.length_take];omega,hi2,by rw[List.length_append,List.length_take,List.length_singleton];omega,hi1,N-(y+1),by omega,_,_,rfl,hlt,rfl,?_⟩
       rw[hstep,nextW,hc',cond_false]
       rfl
     · have hc':(o.getD (o.length-1) (0,false)).2=true:=by simpa using hc
       refine⟨N-(y+1),by omega,_,_,rfl,hlt,rfl,?_⟩
       rw[hstep,nextW,hc',cond_true]
   · have:¬y<N:=fun h=>hno (by have:=hne' h;omega)
     exact⟨rfl,.inr (by omega)⟩
 · cases h
def consJ3:Cons:=consJ2
def twosJ3:Cons2:=twosJ2
def pansJ3:Cons3:=pansJ2
def itersJ3:Cons4:=(109,con109)::itersJ2
abbrev eJ3:Env:=envOf4 consJ3 twosJ3 pansJ3 itersJ3
theorem allconsJ3:∀c∈consJ3,ConOk Tryz.prog c:=allconsJ2
theorem alltwosJ3:∀c∈twosJ3,ConOk2 Tryz.prog c:=alltwosJ2
theorem allpansJ3:∀c∈pansJ3,ConOk3 Tryz.prog c:=allpansJ2
theorem allitersJ3:∀c∈itersJ3,ConOk4 Tryz.prog c:=all_cons ok109 allitersJ2
theorem envJ3:EnvOk Tryz.prog eJ3:=envOf4_ok _ _ _ _ allconsJ3 alltwosJ3 allpansJ3 allitersJ3
end
end Go.Proofs.YtkpjcmiijlpcaaaGreat.W
