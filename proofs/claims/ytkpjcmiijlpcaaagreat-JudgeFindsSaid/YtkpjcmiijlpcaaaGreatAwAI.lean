/- Layer 20's statements: where they begin. -/
import Derived.Test.YtkpjcmiijlpcaaaGreatEa
import Derived.Test.YtkpjcmiijlpcaaaGreatAwAF
import Derived.Test.YtkpjcmiijlpcaaaGreatAwAH
import Derived.Test.YtkpjcmiijlpcaaaGreatFd
import Derived.Test.YtkpjcmiijlpcaaaGreatFe
import Derived.Test.YtkpjcmiijlpcaaaGreatFh
import Derived.Test.YtkpjcmiijlpcaaaGreatFi
import Derived.Test.YtkpjcmiijlpcaaaGreatPc
import Derived.KernelRfl
set_option linter.unusedVariables false
set_option linter.unusedSimpArgs false
namespace Go.Proofs.YtkpjcmiijlpcaaaGreat.W
open Go Go.Proofs Go.Proofs.YtkpjcmiijlpcaaaGreat.Aw
noncomputable section
def consB0:Cons:=(32,con32)::(33,con33)::[]
def twosB0:Cons2:=[]
def pansB0:Cons3:=[]
def itersB0:Cons4:=[]
abbrev eB0:Env:=envOf4 consB0 twosB0 pansB0 itersB0
theorem allconsB0:∀c∈consB0,ConOk Tryz.prog c:=all_cons ok32 (all_cons ok33 all_nil)
theorem alltwosB0:∀c∈twosB0,ConOk2 Tryz.prog c:=all_nil
theorem allpansB0:∀c∈pansB0,ConOk3 Tryz.prog c:=all_nil
theorem allitersB0:∀c∈itersB0,ConOk4 Tryz.prog c:=all_nil
theorem envB0:EnvOk Tryz.prog eB0:=envOf4_ok _ _ _ _ allconsB0 alltwosB0 allpansB0 allitersB0
def con30_q:List AV→Option Tells
 | [.list 80 (.pair (.int .i64) (.pair (.int .i64) (.pair (.int .i64) (.pair (.int .i64) (.pair (.int .i64) (.pair (.int .i64) (.pair (.pair (.int .i64) (.pair (.int .i64) (.pair (.int .i64) (.int .i64)))) (.pair (.int .i64) (.pair (.int .i64) (.pair (.int .i64) (.int .i64))))))))))) l,.int .i64 i]=>some ⟨[0≤i,i<(l.length:Int),i≤65536],.int .i64 (blk (parFrom l (IntKind.i64.wrap ((l.getD i.toNat zBx).1-1)) i.toNat)),[]⟩
 | _=>none
def f30_q_live1:List Nat:=[5,0,5,0,1,5,5,4]
def f30_q_head1 (l:List TB.den) (i:Int) (s5:Int):St:={slots:=[AV.list 80 TB l,AV.int .i64 i,AV.undef,AV.undef,AV.int .i64 0,AV.int .i64 s5]++List.replicate 19 AV.undef,obs:=[]}
def f30_q_q1 (R:AV→List Ob→Prop):Ex→St→Prop:=blockA 0 (seqQ tab eB0 (subC [1,1] (bodyOf Tryz.f30)) [4] (endA tab Tryz.f30 R))
def f30_q_loop1 (R:AV→List Ob→Prop) (l:List TB.den) (i:Int) (s5:Int):Prop:=loopT f30_q_live1 (codeA tab eB0 (subC [1,0,1,0,0] (bodyOf Tryz.f30)) f30_q_live1) (f30_q_head1 l i s5) (f30_q_q1 R)
def f30_q_rhs1 (R:AV→List Ob→Prop) (l:List TB.den) (i:Int) (J:St→Prop) (s5:Int):Prop:=bif decide (s5≥0) then 0≤s5∧s5<(↑l.length:Int)∧0≤i∧i<(↑l.length:Int)∧bif (l.getD s5.toNat (0,0,0,0,0,0,(0,0,0,0),0,0,0,0)).fst==IntKind.i64.wrap ((l.getD i.toNat (0,0,0,0,0,0,(0,0,0,0),0,0,0,0)).fst-1) then R (AV.int .i64 s5) [] else J (f30_q_head1 l i (IntKind.i64.wrap (s5-1))) else R (AV.int .i64 (-1)) []
theorem f30_q_eq1 (R:AV→List Ob→Prop) (l:List TB.den) (i:Int) (J:St→Prop) (s5:Int):codeA tab eB0 (subC [1,0,1,0,0] (bodyOf Tryz.f30)) f30_q_live1 (f30_q_head1 l i s5) (thenA (fun s=>J (St.tidy f30_q_live1 s)) (f30_q_q1 R))=f30_q_rhs1 R l i J s5:=by kernel_rfl
set_option maxHeartbeats 2000000 in
theorem f30_q_rule1 (R:AV→List Ob→Prop) (l:List TB.den) (i:Int) (I:Nat→(Int)→Prop) (n:Nat) (s5:Int) (h0:I n s5) (h:∀n,∀(s5:Int),I n s5→f30_q_rhs1 R l i (fun t=>∃m,m<n∧∃(s5:Int),t=f30_q_head1 l i s5∧I m s5) s5):f30_q_loop1 R l i s5:=
 loop_intro (fun n t=>∃(s5:Int),t=f30_q_head1 l i s5∧I n s5) n ⟨s5,rfl,h0⟩ (fun n t ht=>by obtain⟨s5,rfl,hI⟩:=ht;exact Eq.mpr (f30_q_eq1 R l i (fun t=>∃m,m<n∧∃(s5:Int),t=f30_q_head1 l i s5∧I m s5) s5) (h n s5 hI))
theorem f30_q_run (R:AV→List Ob→Prop) (l:List TB.den) (i:Int):fnA tab eB0 Tryz.f30 (bodyOf Tryz.f30) [.list 80 TB l,.int .i64 i] R=(f30_q_loop1 R l i (IntKind.i64.wrap (i-1))):=by kernel_rfl
theorem ok30_q:ConOk Tryz.prog (30,con30_q):=by
 intro args t h hp
 change con30_q args=some t at h
 unfold con30_q at h
 split at h
 · rename_i l i
   change List TB.den at l
   cases h
   refine fn_ok envB0 tab_ok mixed Tryz.func30 (by kernel_rfl) (by kernel_rfl) ?_
   rw[f30_q_run]
   try dsimp only
   have h0:=hp (0≤i) (by simp)
   have h1:=hp (i<(l.length:Int)) (by simp)
   have h2:=hp (i≤65536) (by simp)
   clear hp
   rw[blk_eq,wrap_id (i-1) (by omega)]
   refine f30_q_rule1 _ l i (fun n s=>∃k:Nat,k≤i.toNat∧n=k∧s=(k:Int)-1∧parFrom l (IntKind.i64.wrap ((l.getD i.toNat zBx).1-1)) i.toNat=parFrom l (IntKind.i64.wrap ((l.getD i.toNat zBx).1-1)) k) i.toNat _ ⟨i.toNat,Nat.le_refl _,rfl,by omega,rfl⟩ ?_
   rintro n s ⟨k,hk,rfl,rfl,hpar⟩
   unfold f30_q_rhs1
   refine dec_split (fun hlt => ?_) (fun hlt => ?_)
   · obtain⟨j,rfl⟩:∃j,n=j+1:=⟨n-1,by omega⟩
     have e:(((j+1:Nat):Int)-1)=(j:Int):=by omega
     rw[e,Int.toNat_natCast]
     simp only[parFrom] at hpar
     refine⟨by omega,by omega,h0,h1,cond_split (fun hc => ?_) (fun hc => ?_)⟩
     · rw[hpar,show ((l.getD j zBx).1==_)=true from hc]
       exact⟨rfl,rfl⟩
     · rw[show ((l.getD j zBx).1==_)=false from hc] at hpar
       exact⟨j,by omega,_,rfl,j,by omega,rfl,wrap_id _ (by omega),hpar⟩
   · have:n=0:=by omega
     subst this
     rw[hpar]
     exact⟨rfl,rfl⟩
 · cases h
def consB1:Cons:=(30,con30_q)::consB0
def twosB1:Cons2:=twosB0
def pansB1:Cons3:=pansB0
def itersB1:Cons4:=itersB0
abbrev eB1:Env:=envOf4 consB1 twosB1 pansB1 itersB1
theorem allconsB1:∀c∈consB1,ConOk Tryz.prog c:=all_cons ok30_q allconsB0
theorem alltwosB1:∀c∈twosB1,ConOk2 Tryz.prog c:=alltwosB0
theorem allpansB1:∀c∈pansB1,ConOk3 Tryz.prog c:=allpansB0
theorem allitersB1:∀c∈itersB1,ConOk4 Tryz.prog c:=allitersB0
theorem envB1:EnvOk Tryz.prog eB1:=envOf4_ok _ _ _ _ allconsB1 alltwosB1 allpansB1 allitersB1
def c33b (b:Bx):Int:=c32 b.1 b.2.1 b.2.2.1 b.2.2.2.1 b.2.2.2.2.1 b.2.2.2.2.2.1 b.2.2.2.2.2.2.1.1 b.2.2.2.2.2.2.1.2.1 b.2.2.2.2.2.2.1.2.2.1 b.2.2.2.2.2.2.1.2.2.2 b.2.2.2.2.2.2.2.1 b.2.2.2.2.2.2.2.2.1 b.2.2.2.2.2.2.2.2.2.1 b.2.2.2.2.2.2.2.2.2.2
def rootX (b:Bx):Bool:=bif !(b.1 != 0) then (bif !(b.2.1 != 3) then (bif !decide (b.2.2.2.2.1<0) then (bif !(b.2.2.2.1 != 0) then !(b.2.2.2.2.2.2.1.1==0&&(b.2.2.2.2.2.2.1.2.1==0&&(b.2.2.2.2.2.2.1.2.2.1==0&&(b.2.2.2.2.2.2.1.2.2.2==0&&true)))) else true) else true) else true) else true
def nestX (d d0:Int):Bool:=bif !(d==0) then decide (d>IntKind.i64.wrap (d0+1)) else true
def ck6 (l:List Bx) (i:Nat):Int:=
 bif (i:Int)==65536 then 3 else bif c33b (l.getD i zBx) != 0 then c33b (l.getD i zBx) else
 bif (i:Int)==0 then (bif rootX (l.getD i zBx) then 12 else 0) else
 bif nestX (l.getD i zBx).1 (l.getD (i-1) zBx).1 then 12 else
 bif !fits4 (l.getD (parFrom l (IntKind.i64.wrap ((l.getD i zBx).1-1)) i).toNat zBx).2.1 (l.getD i zBx).2.1 then 12 else 0
def chkFrom (l:List Bx):Nat→Nat→Int×Int
 | 0,_=>(-1,0)
 | f+1,i=>bif ck6 l i != 0 then ((i:Int),ck6 l i) else chkFrom l f (i+1)
def chk6 (l:List Bx):Int×Int:=bif (l.length:Int)==0 then (-1,15) else chkFrom l l.length 0
theorem c33b_ok {b:Bx} (h:c33b b=0):OkBx b.1 b.2.1 b.2.2.1 b.2.2.2.1 b.2.2.2.2.1 b.2.2.2.2.2.1 b.2.2.2.2.2.2.1.1 b.2.2.2.2.2.2.1.2.1 b.2.2.2.2.2.2.1.2.2.1 b.2.2.2.2.2.2.1.2.2.2 b.2.2.2.2.2.2.2.1 b.2.2.2.2.2.2.2.2.1 b.2.2.2.2.2.2.2.2.2.1 b.2.2.2.2.2.2.2.2.2.2:=z33 _ _ _ _ _ _ _ _ _ _ _ _ _ _ h
theorem bne_zero {x:Int} (h:(x != 0)=false):x=0:=by simpa using h
theorem ck6_zero {l:List Bx} {i:Nat} (h:ck6 l i=0):i≠65536∧c33b (l.getD i zBx)=0∧(i=0→rootX (l.getD i zBx)=false)∧(0<i→nestX (l.getD i zBx).1 (l.getD (i-1) zBx).1=false∧fits4 (l.getD (parFrom l (IntKind.i64.wrap ((l.getD i zBx).1-1)) i).toNat zBx).2.1 (l.getD i zBx).2.1=true):=by
 unfold ck6 at h
 cases h1:((i:Int)==65536) with
 | true=>rw[h1] at h;cases h
 | false=>
  have h1':i≠65536:=fun e=>by rw[e] at h1;cases h1
  rw[h1,cond_false] at h
  cases h2:(c33b (l.getD i zBx) != 0) with
  | true=>rw[h2,cond_true] at h;rw[h] at h2;cases h2
  | false=>
   have h2':=bne_zero h2
   rw[h2,cond_false] at h
   cases h3:((i:Int)==0) with
   | true=>
    have hi:i=0:=by simpa using h3
    rw[h3,cond_true] at h
    refine⟨h1',h2',fun _ => ?_,fun e=>by omega⟩
    cases h4:rootX (l.getD i zBx) with
    | true=>rw[h4] at h;cases h
    | false=>rfl
   | false=>
    have hi:i≠0:=by simpa using h3
    rw[h3,cond_false] at h
    refine⟨h1',h2',fun e=>absurd e hi,fun _ => ?_⟩
    cases h4:nestX (l.getD i zBx).1 (l.getD (i-1) zBx).1 with
    | true=>rw[h4] at h;cases h
    | false=>
     rw[h4,cond_false] at h
     cases h5:fits4 (l.getD (parFrom l (IntKind.i64.wrap ((l.getD i zBx).1-1)) i).toNat zBx).2.1 (l.getD i zBx).2.1 with
     | false=>rw[h5] at h;cases h
     | true=>exact⟨rfl,rfl⟩
theorem nestX_no {d d0:Int} (h:nestX d d0=false):d≠0∧d≤IntKind.i64.wrap (d0+1):=by
 unfold nestX at h
 cases h1:(d==0) with
 | true=>rw[h1] at h;cases h
 | false=>
  rw[h1] at h
  exact⟨beq_eq_false_iff_ne.1 h1,by have:=of_decide_eq_false h;omega⟩
theorem ck_depth {l:List Bx} {i:Nat} (h:ck6 l i=0) (hp:0<i→c33b (l.getD (i-1) zBx)=0):0≤(l.getD i zBx).1∧(l.getD i zBx).1≤256∧(i=0→(l.getD i zBx).1=0)∧(0<i→1≤(l.getD i zBx).1∧(l.getD i zBx).1≤(l.getD (i-1) zBx).1+1):=by
 obtain⟨h1,h2,h3,h4⟩:=ck6_zero h
 have hd:=(c33b_ok h2).depth
 refine⟨hd.1,hd.2,fun e => ?_,fun e => ?_⟩
 · have:=h3 e
   unfold rootX at this
   cases h5:((l.getD i zBx).1 != 0) with
   | true=>rw[h5] at this;cases this
   | false=>exact bne_zero h5
 · obtain⟨g1,g2⟩:=nestX_no (h4 e).1
   have hd0:=(c33b_ok (hp e)).depth
   rw[wrap_id _ (by omega)] at g2
   omega
theorem parFrom_spec (l:List Bx) (d:Int):∀k,(∃m,m<k∧(l.getD m zBx).1=d)→∃m:Nat,m<k∧parFrom l d k=m∧(l.getD m zBx).1=d
 | 0,⟨m,h,_⟩=>by omega
 | k+1,⟨m,h,hm⟩=>by
  simp only[parFrom]
  cases hc:((l.getD k zBx).1==d) with
  | true=>exact⟨k,by omega,rfl,beq_iff_eq.1 hc⟩
  | false=>
   have hne:m≠k:=fun e=>by rw[e] at hm;rw[hm] at hc;simp at hc
   obtain⟨m',h1,h2,h3⟩:=parFrom_spec l d k ⟨m,by omega,hm⟩
   exact⟨m',by omega,h2,h3⟩
theorem ladder {l:List Bx}:∀k,(∀j,j<k→ck6 l j=0)→0<k→∀v:Int,0≤v→v≤(l.getD (k-1) zBx).1→∃m,m<k∧(l.getD m zBx).1=v
 | 0,_,h,_,_,_=>by omega
 | k+1,hc,_,v,h0,hv=>by
  have hd:=ck_depth (hc k (by omega)) (fun e=>(ck6_zero (hc (k-1) (by omega))).2.1)
  rw[Nat.add_sub_cancel] at hv
  by_cases e:v=(l.getD k zBx).1
  · exact⟨k,by omega,e.symm⟩
  · rcases Nat.eq_zero_or_pos k with hk | hk
    · have:=hd.2.2.1 hk;omega
    · have h4:=hd.2.2.2 hk
      obtain⟨m,h1,h2⟩:=ladder k (fun j hj=>hc j (by omega)) hk v h0 (by omega)
      exact⟨m,by omega,h2⟩
theorem par_pos {l:List Bx} {k:Nat} (hc:∀j,j<k→ck6 l j=0) (hk:0<k) (h1:nestX (l.getD k zBx).1 (l.getD (k-1) zBx).1=false) (h2:c33b (l.getD k zBx)=0) :
 IntKind.i64.wrap ((l.getD k zBx).1-1)=(l.getD k zBx).1-1∧∃m:Nat,m<k∧parFrom l ((l.getD k zBx).1-1) k=m∧(l.getD m zBx).1=(l.getD k zBx).1-1:=by
 have hd:=(c33b_ok h2).depth
 have hp:=(ck6_zero (hc (k-1) (by omega))).2.1
 have hd0:=(c33b_ok hp).depth
 obtain⟨g1,g2⟩:=nestX_no h1
 rw[wrap_id _ (by omega)] at g2
 refine⟨wrap_id _ (by omega),parFrom_spec l _ k (ladder k hc hk _ (by omega) (by omega))⟩
theorem chkFrom_step {l:List Bx} {k:Nat} (hk:k<l.length) (h:chk6 l=chkFrom l (l.length-k) k):(ck6 l k≠0→chk6 l=((k:Int),ck6 l k))∧(ck6 l k=0→chk6 l=chkFrom l (l.length-(k+1)) (k+1)):=by
 obtain⟨f,hf⟩:∃f,l.length-k=f+1:=⟨l.length-k-1,by omega⟩
 rw[hf] at h
 simp only[chkFrom] at h
 refine⟨fun e => ?_,fun e => ?_⟩
 · rw[h,show (ck6 l k != 0)=true by simpa using e];rfl
 · rw[h,e,show l.length-(k+1)=f by omega];rfl
theorem root_all6 {K4 K3:Prop} (b:Bx) (h4:rootX b=true→K4) (h3:rootX b=false→K3):bif !(b.1 != 0) then bif !(b.2.1 != 3) then bif !decide (b.2.2.2.2.1<0) then bif !(b.2.2.2.1 != 0) then (bif !(b.2.2.2.2.2.2.1.1==0&&(b.2.2.2.2.2.2.1.2.1==0&&(b.2.2.2.2.2.2.1.2.2.1==0&&(b.2.2.2.2.2.2.1.2.2.2==0&&true)))) then K4 else K3) else K4 else K4 else K4 else K4:=by
 unfold rootX at h3 h4
 generalize (!(b.1 != 0))=c1 at *
 generalize (!(b.2.1 != 3))=c2 at *
 generalize (!decide (b.2.2.2.2.1<0))=c3 at *
 generalize (!(b.2.2.2.1 != 0))=c4 at *
 generalize (!(b.2.2.2.2.2.2.1.1==0&&(b.2.2.2.2.2.2.1.2.1==0&&(b.2.2.2.2.2.2.1.2.2.1==0&&(b.2.2.2.2.2.2.1.2.2.2==0&&true)))))=c5 at *
 cases c1<;>cases c2<;>cases c3<;>cases c4<;>cases c5<;>first | exact h4 rfl | exact h3 rfl
def con9:List AV→Option Tells
 | [.list 80 (.pair (.int .i64) (.pair (.int .i64) (.pair (.int .i64) (.pair (.int .i64) (.pair (.int .i64) (.pair (.int .i64) (.pair (.pair (.int .i64) (.pair (.int .i64) (.pair (.int .i64) (.int .i64)))) (.pair (.int .i64) (.pair (.int .i64) (.pair (.int .i64) (.int .i64))))))))))) l]=>some ⟨[],.tuple (.cons (.int .i64 ((blk (chk6 l)).1)) (.cons (.int .i64 ((blk (chk6 l)).2)) .nl)),[]⟩
 | _=>none
def f9_cuts:List Nat:=[6,15]
def f9_live1:List Nat:=[4,0,0,4,4,4,4,4,0,4,4,0,0,4,4,4,2,3]
def f9_head1 (l:List TB.den) (s4:Int):St:={slots:=[AV.list 80 TB l,AV.undef,AV.int .i64 0,AV.int .i64 0,AV.int .i64 s4]++List.replicate 78 AV.undef,obs:=[]}
def f9_q1 (R:AV→List Ob→Prop):Ex→St→Prop:=blockA 0 (seqQ tab (eB1.cut f9_cuts) (subC [1,1,1] (bodyOf Tryz.f9)) [2,3] (endA tab Tryz.f9 R))
def f9_loop1 (R:AV→List Ob→Prop) (l:List TB.den) (s4:Int):Prop:=loopT f9_live1 (codeA tab (eB1.cut f9_cuts) (subC [1,1,0,1,0,0] (bodyOf Tryz.f9)) f9_live1) (f9_head1 l s4) (f9_q1 R)
set_option maxHeartbeats 2000000 in
def f9_j2 (R:AV→List Ob→Prop) (l:List TB.den) (s4:Int) (J:St→Prop):Prop:=Meet (fun s=>codeA tab (eB1.cut f9_cuts) (subC [1,1,0,1,0,0,1,0,0,1,1,1,0,1,0,0,1] (bodyOf Tryz.f9)) [5,5,0,4,4,0,0,4,5,4,4,4,0,0,4,4,4,4,4,0,4,4,0,0,4,4,4,2,3] s (seqQ tab (eB1.cut f9_cuts) (subC [1,1,0,1,0,0,1,0,0,1,1,1,0,1,0,1] (bodyOf Tryz.f9)) [5,5,0,4,4,0,0,4,5,4,4,4,0,0,4,4,4,4,4,0,4,4,0,0,4,4,4,2,3] (seqQ tab (eB1.cut f9_cuts) (subC [1,1,0,1,0,0,1,0,0,1,1,1,1] (bodyOf Tryz.f9)) [4,4,0,0,4,4,4,4,4,0,4,4,0,0,4,4,4,2,3] (blockA 1 (seqQ tab (eB1.cut f9_cuts) (subC [1,1,0,1,0,0,1,1] (bodyOf Tryz.f9)) [4,0,0,4,4,4,4,4,0,4,4,0,0,4,4,4,2,3] (thenA (fun s=>J (St.tidy f9_live1 s)) (blockA 0 (seqQ tab (eB1.cut f9_cuts) (subC [1,1,1] (bodyOf Tryz.f9)) [2,3] (endA tab Tryz.f9 R))))))))) {slots:=[AV.list 80 TB l,AV.undef,AV.int .i64 0,AV.int .i64 0,AV.int .i64 s4,AV.ptr 0 0]++List.replicate 48 AV.undef++[AV.bool !((l.getD s4.toNat (0,0,0,0,0,0,(0,0,0,0),0,0,0,0)).snd.snd.snd.snd.snd.snd.fst.fst==0&&((l.getD s4.toNat (0,0,0,0,0,0,(0,0,0,0),0,0,0,0)).snd.snd.snd.snd.snd.snd.fst.snd.fst==0&&((l.getD s4.toNat (0,0,0,0,0,0,(0,0,0,0),0,0,0,0)).snd.snd.snd.snd.snd.snd.fst.snd.snd.fst==0&&((l.getD s4.toNat (0,0,0,0,0,0,(0,0,0,0),0,0,0,0)).snd.snd.snd.snd.snd.snd.fst.snd.snd.snd==0&&true))))]++List.replicate 28 AV.undef,obs:=[Ob.cells 80 [AV.int .i64 (l.getD s4.toNat (0,0,0,0,0,0,(0,0,0,0),0,0,0,0)).fst,AV.int .i64 (l.getD s4.toNat (0,0,0,0,0,0,(0,0,0,0),0,0,0,0)).snd.fst,AV.int .i64 (l.getD s4.toNat (0,0,0,0,0,0,(0,0,0,0),0,0,0,0)).snd.snd.fst,AV.int .i64 (l.getD s4.toNat (0,0,0,0,0,0,(0,0,0,0),0,0,0,0)).snd.snd.snd.fst,AV.int .i64 (l.getD s4.toNat (0,0,0,0,0,0,(0,0,0,0),0,0,0,0)).snd.snd.snd.snd.fst,AV.int .i64 (l.getD s4.toNat (0,0,0,0,0,0,(0,0,0,0),0,0,0,0)).snd.snd.snd.snd.snd.fst,AV.int .i64 (l.getD s4.toNat (0,0,0,0,0,0,(0,0,0,0),0,0,0,0)).snd.snd.snd.snd.snd.snd.fst.fst,AV.int .i64 (l.getD s4.toNat (0,0,0,0,0,0,(0,0,0,0),0,0,0,0)).snd.snd.snd.snd.snd.snd.fst.snd.fst,AV.int .i64 (l.getD s4.toNat (0,0,0,0,0,0,(0,0,0,0),0,0,0,0)).snd.snd.snd.snd.snd.snd.fst.snd.snd.fst,AV.int .i64 (l.getD s4.toNat (0,0,0,0,0,0,(0,0,0,0),0,0,0,0)).snd.snd.snd.snd.snd.snd.fst.snd.snd.snd,AV.int .i64 (l.getD s4.toNat (0,0,0,0,0,0,(0,0,0,0),0,0,0,0)).snd.snd.snd.snd.snd.snd.snd.fst,AV.int .i64 (l.getD s4.toNat (0,0,0,0,0,0,(0,0,0,0),0,0,0,0)).snd.snd.snd.snd.snd.snd.snd.snd.fst,AV.int .i64 (l.getD s4.toNat (0,0,0,0,0,0,(0,0,0,0),0,0,0,0)).snd.snd.snd.snd.snd.snd.snd.snd.snd.fst,AV.int .i64 (l.getD s4.toNat (0,0,0,0,0,0,(0,0,0,0),0,0,0,0)).snd.snd.snd.snd.snd.snd.snd.snd.snd.snd]]}
def f9_j3 (R:AV→List Ob→Prop) (l:List TB.den) (s4:Int) (J:St→Prop):Prop:=Meet (fun s=>codeA tab (eB1.cut f9_cuts) (subC [1,1,0,1,0,0,1,1] (bodyOf Tryz.f9)) [4,0,0,4,4,4,4,4,0,4,4,0,0,4,4,4,2,3] s (thenA (fun s=>J (St.tidy f9_live1 s)) (blockA 0 (seqQ tab (eB1.cut f9_cuts) (subC [1,1,1] (bodyOf Tryz.f9)) [2,3] (endA tab Tryz.f9 R))))) {slots:=[AV.list 80 TB l,AV.undef,AV.int .i64 0,AV.int .i64 0,AV.int .i64 s4]++List.replicate 78 AV.undef,obs:=[]}
theorem f9_jeq3 (R:AV→List Ob→Prop) (l:List TB.den) (s4:Int) (J:St→Prop):f9_j3 R l s4 J=(J (f9_head1 l (IntKind.i64.wrap (s4+1)))):=(meet_eq _ _).trans (by kernel_rfl)
theorem f9_jeq2 (R:AV→List Ob→Prop) (l:List TB.den) (s4:Int) (J:St→Prop):f9_j2 R l s4 J=(bif !((l.getD s4.toNat (0,0,0,0,0,0,(0,0,0,0),0,0,0,0)).snd.snd.snd.snd.snd.snd.fst.fst==0&&((l.getD s4.toNat (0,0,0,0,0,0,(0,0,0,0),0,0,0,0)).snd.snd.snd.snd.snd.snd.fst.snd.fst==0&&((l.getD s4.toNat (0,0,0,0,0,0,(0,0,0,0),0,0,0,0)).snd.snd.snd.snd.snd.snd.fst.snd.snd.fst==0&&((l.getD s4.toNat (0,0,0,0,0,0,(0,0,0,0),0,0,0,0)).snd.snd.snd.snd.snd.snd.fst.snd.snd.snd==0&&true)))) then R ((AV.int .i64 0).cons ((AV.int .i64 12).cons AV.nl)).tuple [] else f9_j3 R l s4 J):=(meet_eq _ _).trans (by kernel_rfl)
set_option maxHeartbeats 2000000 in
def f9_j4 (R:AV→List Ob→Prop) (l:List TB.den) (s4:Int) (J:St→Prop):Prop:=Meet (fun s=>codeA tab (eB1.cut f9_cuts) (subC [1,1,0,1,0,0,1,0,0,1,1,1,0,1,0,0,1] (bodyOf Tryz.f9)) [5,5,0,4,4,0,0,4,5,4,4,4,0,0,4,4,4,4,4,0,4,4,0,0,4,4,4,2,3] s (seqQ tab (eB1.cut f9_cuts) (subC [1,1,0,1,0,0,1,0,0,1,1,1,0,1,0,1] (bodyOf Tryz.f9)) [5,5,0,4,4,0,0,4,5,4,4,4,0,0,4,4,4,4,4,0,4,4,0,0,4,4,4,2,3] (seqQ tab (eB1.cut f9_cuts) (subC [1,1,0,1,0,0,1,0,0,1,1,1,1] (bodyOf Tryz.f9)) [4,4,0,0,4,4,4,4,4,0,4,4,0,0,4,4,4,2,3] (blockA 1 (seqQ tab (eB1.cut f9_cuts) (subC [1,1,0,1,0,0,1,1] (bodyOf Tryz.f9)) [4,0,0,4,4,4,4,4,0,4,4,0,0,4,4,4,2,3] (thenA (fun s=>J (St.tidy f9_live1 s)) (blockA 0 (seqQ tab (eB1.cut f9_cuts) (subC [1,1,1] (bodyOf Tryz.f9)) [2,3] (endA tab Tryz.f9 R))))))))) {slots:=[AV.list 80 TB l,AV.undef,AV.int .i64 0,AV.int .i64 0,AV.int .i64 s4,AV.ptr 0 0]++List.replicate 48 AV.undef++[AV.bool true]++List.replicate 28 AV.undef,obs:=[Ob.cells 80 [AV.int .i64 (l.getD s4.toNat (0,0,0,0,0,0,(0,0,0,0),0,0,0,0)).fst,AV.int .i64 (l.getD s4.toNat (0,0,0,0,0,0,(0,0,0,0),0,0,0,0)).snd.fst,AV.int .i64 (l.getD s4.toNat (0,0,0,0,0,0,(0,0,0,0),0,0,0,0)).snd.snd.fst,AV.int .i64 (l.getD s4.toNat (0,0,0,0,0,0,(0,0,0,0),0,0,0,0)).snd.snd.snd.fst,AV.int .i64 (l.getD s4.toNat (0,0,0,0,0,0,(0,0,0,0),0,0,0,0)).snd.snd.snd.snd.fst,AV.int .i64 (l.getD s4.toNat (0,0,0,0,0,0,(0,0,0,0),0,0,0,0)).snd.snd.snd.snd.snd.fst,AV.int .i64 (l.getD s4.toNat (0,0,0,0,0,0,(0,0,0,0),0,0,0,0)).snd.snd.snd.snd.snd.snd.fst.fst,AV.int .i64 (l.getD s4.toNat (0,0,0,0,0,0,(0,0,0,0),0,0,0,0)).snd.snd.snd.snd.snd.snd.fst.snd.fst,AV.int .i64 (l.getD s4.toNat (0,0,0,0,0,0,(0,0,0,0),0,0,0,0)).snd.snd.snd.snd.snd.snd.fst.snd.snd.fst,AV.int .i64 (l.getD s4.toNat (0,0,0,0,0,0,(0,0,0,0),0,0,0,0)).snd.snd.snd.snd.snd.snd.fst.snd.snd.snd,AV.int .i64 (l.getD s4.toNat (0,0,0,0,0,0,(0,0,0,0),0,0,0,0)).snd.snd.snd.snd.snd.snd.snd.fst,AV.int .i64 (l.getD s4.toNat (0,0,0,0,0,0,(0,0,0,0),0,0,0,0)).snd.snd.snd.snd.snd.snd.snd.snd.fst,AV.int .i64 (l.getD s4.toNat (0,0,0,0,0,0,(0,0,0,0),0,0,0,0)).snd.snd.snd.snd.snd.snd.snd.snd.snd.fst,AV.int .i64 (l.getD s4.toNat (0,0,0,0,0,0,(0,0,0,0),0,0,0,0)).snd.snd.snd.snd.snd.snd.snd.snd.snd.snd]]}
theorem f9_jeq4 (R:AV→List Ob→Prop) (l:List TB.den) (s4:Int) (J:St→Prop):f9_j4 R l s4 J=(R ((AV.int .i64 0).cons ((AV.int .i64 12).cons AV.nl)).tuple []):=(meet_eq _ _).trans (by kernel_rfl)
set_option maxHeartbeats 2000000 in
def f9_rhs1 (R:AV→List Ob→Prop) (l:List TB.den) (J:St→Prop) (s4:Int):Prop:=bif decide (s4<(↑l.length:Int)) then 0≤s4∧s4<(↑l.length:Int)∧bif s4==65536 then R ((AV.int .i64 s4).cons ((AV.int .i64 3).cons AV.nl)).tuple [] else bif blk (c32 (l.getD s4.toNat (0,0,0,0,0,0,(0,0,0,0),0,0,0,0)).fst (l.getD s4.toNat (0,0,0,0,0,0,(0,0,0,0),0,0,0,0)).snd.fst (l.getD s4.toNat (0,0,0,0,0,0,(0,0,0,0),0,0,0,0)).snd.snd.fst (l.getD s4.toNat (0,0,0,0,0,0,(0,0,0,0),0,0,0,0)).snd.snd.snd.fst (l.getD s4.toNat (0,0,0,0,0,0,(0,0,0,0),0,0,0,0)).snd.snd.snd.snd.fst (l.getD s4.toNat (0,0,0,0,0,0,(0,0,0,0),0,0,0,0)).snd.snd.snd.snd.snd.fst (l.getD s4.toNat (0,0,0,0,0,0,(0,0,0,0),0,0,0,0)).snd.snd.snd.snd.snd.snd.fst.fst (l.getD s4.toNat (0,0,0,0,0,0,(0,0,0,0),0,0,0,0)).snd.snd.snd.snd.snd.snd.fst.snd.fst (l.getD s4.toNat (0,0,0,0,0,0,(0,0,0,0),0,0,0,0)).snd.snd.snd.snd.snd.snd.fst.snd.snd.fst (l.getD s4.toNat (0,0,0,0,0,0,(0,0,0,0),0,0,0,0)).snd.snd.snd.snd.snd.snd.fst.snd.snd.snd (l.getD s4.toNat (0,0,0,0,0,0,(0,0,0,0),0,0,0,0)).snd.snd.snd.snd.snd.snd.snd.fst (l.getD s4.toNat (0,0,0,0,0,0,(0,0,0,0),0,0,0,0)).snd.snd.snd.snd.snd.snd.snd.snd.fst (l.getD s4.toNat (0,0,0,0,0,0,(0,0,0,0),0,0,0,0)).snd.snd.snd.snd.snd.snd.snd.snd.snd.fst (l.getD s4.toNat (0,0,0,0,0,0,(0,0,0,0),0,0,0,0)).snd.snd.snd.snd.snd.snd.snd.snd.snd.snd) != 0 then R ((AV.int .i64 s4).cons ((AV.int .i64 (blk (c32 (l.getD s4.toNat (0,0,0,0,0,0,(0,0,0,0),0,0,0,0)).fst (l.getD s4.toNat (0,0,0,0,0,0,(0,0,0,0),0,0,0,0)).snd.fst (l.getD s4.toNat (0,0,0,0,0,0,(0,0,0,0),0,0,0,0)).snd.snd.fst (l.getD s4.toNat (0,0,0,0,0,0,(0,0,0,0),0,0,0,0)).snd.snd.snd.fst (l.getD s4.toNat (0,0,0,0,0,0,(0,0,0,0),0,0,0,0)).snd.snd.snd.snd.fst (l.getD s4.toNat (0,0,0,0,0,0,(0,0,0,0),0,0,0,0)).snd.snd.snd.snd.snd.fst (l.getD s4.toNat (0,0,0,0,0,0,(0,0,0,0),0,0,0,0)).snd.snd.snd.snd.snd.snd.fst.fst (l.getD s4.toNat (0,0,0,0,0,0,(0,0,0,0),0,0,0,0)).snd.snd.snd.snd.snd.snd.fst.snd.fst (l.getD s4.toNat (0,0,0,0,0,0,(0,0,0,0),0,0,0,0)).snd.snd.snd.snd.snd.snd.fst.snd.snd.fst (l.getD s4.toNat (0,0,0,0,0,0,(0,0,0,0),0,0,0,0)).snd.snd.snd.snd.snd.snd.fst.snd.snd.snd (l.getD s4.toNat (0,0,0,0,0,0,(0,0,0,0),0,0,0,0)).snd.snd.snd.snd.snd.snd.snd.fst (l.getD s4.toNat (0,0,0,0,0,0,(0,0,0,0),0,0,0,0)).snd.snd.snd.snd.snd.snd.snd.snd.fst (l.getD s4.toNat (0,0,0,0,0,0,(0,0,0,0),0,0,0,0)).snd.snd.snd.snd.snd.snd.snd.snd.snd.fst (l.getD s4.toNat (0,0,0,0,0,0,(0,0,0,0),0,0,0,0)).snd.snd.snd.snd.snd.snd.snd.snd.snd.snd))).cons AV.nl)).tuple [] else bif s4==0 then bif !(l.getD s4.toNat (0,0,0,0,0,0,(0,0,0,0),0,0,0,0)).fst != 0 then bif !(l.getD s4.toNat (0,0,0,0,0,0,(0,0,0,0),0,0,0,0)).snd.fst != 3 then bif !decide ((l.getD s4.toNat (0,0,0,0,0,0,(0,0,0,0),0,0,0,0)).snd.snd.snd.snd.fst<0) then bif !(l.getD s4.toNat (0,0,0,0,0,0,(0,0,0,0),0,0,0,0)).snd.snd.snd.fst != 0 then f9_j2 R l s4 J else f9_j4 R l s4 J else f9_j4 R l s4 J else f9_j4 R l s4 J else f9_j4 R l s4 J else bif !(l.getD s4.toNat (0,0,0,0,0,0,(0,0,0,0),0,0,0,0)).fst==0 then 0≤IntKind.i64.wrap (s4-1)∧IntKind.i64.wrap (s4-1)<(↑l.length:Int)∧bif decide ((l.getD s4.toNat (0,0,0,0,0,0,(0,0,0,0),0,0,0,0)).fst>IntKind.i64.wrap ((l.getD (IntKind.i64.wrap (s4-1)).toNat (0,0,0,0,0,0,(0,0,0,0),0,0,0,0)).fst+1)) then R ((AV.int .i64 s4).cons ((AV.int .i64 12).cons AV.nl)).tuple [] else 0≤s4∧s4<(↑l.length:Int)∧s4≤65536∧0≤blk (parFrom l (IntKind.i64.wrap ((l.getD s4.toNat zBx).fst-1)) s4.toNat)∧blk (parFrom l (IntKind.i64.wrap ((l.getD s4.toNat zBx).fst-1)) s4.toNat)<(↑l.length:Int)∧bif !blk (fits4 (l.getD (blk (parFrom l (IntKind.i64.wrap ((l.getD s4.toNat zBx).fst-1)) s4.toNat)).toNat (0,0,0,0,0,0,(0,0,0,0),0,0,0,0)).snd.fst (l.getD s4.toNat (0,0,0,0,0,0,(0,0,0,0),0,0,0,0)).snd.fst) then R ((AV.int .i64 s4).cons ((AV.int .i64 12).cons AV.nl)).tuple [] else f9_j3 R l s4 J else R ((AV.int .i64 s4).cons ((AV.int .i64 12).cons AV.nl)).tuple [] else R ((AV.int .i64 (-1)).cons ((AV.int .i64 0).cons AV.nl)).tuple []
theorem f9_eq1 (R:AV→List Ob→Prop) (l:List TB.den) (J:St→Prop) (s4:Int):codeA tab (eB1.cut f9_cuts) (subC [1,1,0,1,0,0] (bodyOf Tryz.f9)) f9_live1 (f9_head1 l s4) (thenA (fun s=>J (St.tidy f9_live1 s)) (f9_q1 R))=f9_rhs1 R l J s4:=by kernel_rfl
set_option maxHeartbeats 2000000 in
theorem f9_rule1 (R:AV→List Ob→Prop) (l:List TB.den) (I:Nat→(Int)→Prop) (n:Nat) (s4:Int) (h0:I n s4) (h:∀n,∀(s4:Int),I n s4→f9_rhs1 R l (fun t=>∃m,m<n∧∃(s4:Int),t=f9_head1 l s4∧I m s4) s4):f9_loop1 R l s4:=
 loop_intro (fun n t=>∃(s4:Int),t=f9_head1 l s4∧I n s4) n ⟨s4,rfl,h0⟩ (fun n t ht=>by obtain⟨s4,rfl,hI⟩:=ht;exact Eq.mpr (f9_eq1 R l (fun t=>∃m,m<n∧∃(s4:Int),t=f9_head1 l s4∧I m s4) s4) (h n s4 hI))
theorem f9_run (R:AV→List Ob→Prop) (l:List TB.den):fnA tab (eB1.cut f9_cuts) Tryz.f9 (bodyOf Tryz.f9) [.list 80 TB l] R=(bif (↑l.length:Int)==0 then R ((AV.int .i64 (-1)).cons ((AV.int .i64 15).cons AV.nl)).tuple [] else f9_loop1 R l 0):=by kernel_rfl
theorem ok9:ConOk Tryz.prog (9,con9):=by
 intro args t h hp
 change con9 args=some t at h
 unfold con9 at h
 split at h
 · rename_i l
   change List TB.den at l
   cases h
   refine fn_ok (envB1.cut f9_cuts) tab_ok mixed Tryz.func9 (by kernel_rfl) (by kernel_rfl) ?_
   rw[f9_run]
   try dsimp only
   rw[blk_eq]
   refine cond_split (fun h0 => ?_) (fun h0 => ?_)
   · have e:chk6 l=(-1,15):=by unfold chk6;rw[h0];rfl
     rw[e];exact⟨rfl,rfl⟩
   have e0:chk6 l=chkFrom l (l.length-0) 0:=by unfold chk6;rw[h0];rfl
   refine f9_rule1 _ l (fun n s=>∃k:Nat,k≤l.length∧n=l.length-k∧s=k∧(∀j,j<k→ck6 l j=0)∧chk6 l=chkFrom l (l.length-k) k) l.length 0 ⟨0,Nat.zero_le _,rfl,rfl,fun j hj=>absurd hj (Nat.not_lt_zero _),e0⟩ ?_
   rintro n s ⟨k,hk,rfl,rfl,hc,hck⟩
   unfold f9_rhs1
   refine dec_split (fun hlt => ?_) (fun hlt => ?_)
   rotate_left
   · have e:l.length-k=0:=by omega
     rw[hck,e]
     exact⟨rfl,rfl⟩
   have hlt':k<l.length:=by omega
   obtain⟨s1,s2⟩:=chkFrom_step hlt' hck
   rw[Int.toNat_natCast,blk_eq,blk_eq,blk_eq]
   have hz:(0,0,0,0,0,0,(0,0,0,0),0,0,0,0)=zBx:=rfl
   rw[hz]
   refine⟨by omega,hlt,cond_split (fun h1 => ?_) (fun h1=>cond_split (fun h2 => ?_) (fun h2=>cond_split (fun h3 => ?_) (fun h3 => ?_)))⟩
   · have e:ck6 l k=3:=by unfold ck6;rw[h1];rfl
     rw[s1 (by rw[e];decide),e]
     exact⟨rfl,rfl⟩
   · have e:ck6 l k=c33b (l.getD k zBx):=by unfold ck6;rw[h1,cond_false,show (c33b (l.getD k zBx) != 0)=true from h2];rfl
     have hne:ck6 l k≠0:=by rw[e];simpa using show (c33b (l.getD k zBx) != 0)=true from h2
     rw[s1 hne,e]
     exact⟨rfl,rfl⟩
   · have hk0:k=0:=by simpa using h3
     have hw:IntKind.wrap .i64 ((k:Int)+1)=((k+1:Nat):Int):=by rw[wrap_id _ (by omega)];rfl
     rw[f9_jeq2,f9_jeq4,f9_jeq3,Int.toNat_natCast,hz]
     have e:ck6 l k=bif rootX (l.getD k zBx) then 12 else 0:=by unfold ck6;rw[h1,cond_false,show (c33b (l.getD k zBx) != 0)=false from h2,cond_false,h3];rfl
     refine root_all6 (l.getD k zBx) (fun hr => ?_) (fun hr => ?_)
     · rw[hr] at e
       rw[s1 (by rw[e];decide),e,hk0]
       exact⟨rfl,rfl⟩
     · rw[hr] at e
       exact⟨l.length-(k+1),by omega,_,rfl,k+1,by omega,rfl,hw,fun j hj=>by
        rcases Nat.lt_or_ge j k with h | h
        · exact hc j h
        · rw[show j=k by omega];exact e,s2 e⟩
   have hk0:0<k:=by
    have:k≠0:=by simpa using h3
    omega
   have hk6:k≠65536:=fun e=>by rw[e] at h1;cases h1
   have hkb:k<65536:=by
    rcases Nat.lt_or_ge k 65536 with h | h
    · exact h
    · exact absurd rfl (ck6_zero (hc 65536 (by omega))).1
   have h2':c33b (l.getD k zBx)=0:=bne_zero h2
   have hw0:IntKind.wrap .i64 ((k:Int)-1)=((k-1:Nat):Int):=by rw[wrap_id _ (by omega)];omega
   have hw:IntKind.wrap .i64 ((k:Int)+1)=((k+1:Nat):Int):=by rw[wrap_id _ (by omega)];rfl
   rw[hw0,Int.toNat_natCast,f9_jeq3,hw]
   have e:ck6 l k=bif nestX (l.getD k zBx).1 (l.getD (k-1) zBx).1 then 12 else bif !fits4 (l.getD (parFrom l (IntKind.i64.wrap ((l.getD k zBx).1-1)) k).toNat zBx).2.1 (l.getD k zBx).2.1 then 12 else 0:=by
    unfold ck6
    rw[h1,cond_false,show (c33b (l.getD k zBx) != 0)=false from h2,cond_false,h3,cond_false]
   refine cond_split (fun g1=>⟨by omega,by omega,dec_split (fun g2 => ?_) (fun g2 => ?_)⟩) (fun g1 => ?_)
   · have hn:nestX (l.getD k zBx).1 (l.getD (k-1) zBx).1=true:=by unfold nestX;rw[g1];exact decide_eq_true g2
     rw[hn,cond_true] at e
     rw[s1 (by rw[e];decide),e]
     exact⟨rfl,rfl⟩
   · have hn:nestX (l.getD k zBx).1 (l.getD (k-1) zBx).1=false:=by unfold nestX;rw[g1];exact decide_eq_false g2
     obtain⟨p1,m,p2,p3,p4⟩:=par_pos hc hk0 hn h2'
     rw[hn,cond_false] at e
     rw[p1,p3] at e
     rw[p1,p3]
     refine⟨by omega,hlt,by omega,by omega,by omega,?_⟩
     rw[Int.toNat_natCast] at e ⊢
     refine cond_split (fun g3 => ?_) (fun g3 => ?_)
     · rw[show (!fits4 (l.getD m zBx).2.1 (l.getD k zBx).2.1)=true from g3] at e
       rw[s1 (by rw[e];decide),e]
       exact⟨rfl,rfl⟩
     · rw[show (!fits4 (l.getD m zBx).2.1 (l.getD k zBx).2.1)=false from g3] at e
       exact⟨l.length-(k+1),by omega,_,rfl,k+1,by omega,rfl,rfl,fun j hj=>by
        rcases Nat.lt_or_ge j k with h | h
        · exact hc j h
        · rw[show j=k by omega];exact e,s2 e⟩
   · have hn:nestX (l.getD k zBx).1 (l.getD (k-1) zBx).1=true:=by unfold nestX;rw[g1];rfl
     rw[hn,cond_true] at e
     rw[s1 (by rw[e];decide),e]
     exact⟨rfl,rfl⟩
 · cases h
end
end Go.Proofs.YtkpjcmiijlpcaaaGreat.W
set_option linter.unusedVariables false
set_option linter.unusedSimpArgs false
namespace Go.Proofs.YtkpjcmiijlpcaaaGreat.W
open Go Go.Proofs Go.Proofs.YtkpjcmiijlpcaaaGreat.Aw
theorem chkFrom_ok (l:List Bx):∀f i,(chkFrom l f i).2=0→∀j,i≤j→j<i+f→ck6 l j=0
 | 0,i,_,j,h1,h2=>by omega
 | f+1,i,h,j,h1,h2=>by
  simp only[chkFrom] at h
  cases hc:(ck6 l i != 0) with
  | true=>rw[hc,cond_true] at h;change ck6 l i=0 at h;rw[h] at hc;cases hc
  | false=>
   rw[hc,cond_false] at h
   by_cases e:j=i
   · rw[e];exact bne_zero hc
   · exact chkFrom_ok l f (i+1) h j (by omega) (by omega)
theorem chk6_ok {l:List Bx} (h:(chk6 l).2=0):0<l.length∧∀j,j<l.length→ck6 l j=0:=by
 unfold chk6 at h
 cases hc:((l.length:Int)==0) with
 | true=>rw[hc] at h;cases h
 | false=>
  rw[hc,cond_false] at h
  have:l.length≠0:=by simpa using hc
  exact⟨by omega,fun j hj=>chkFrom_ok l l.length 0 h j (by omega) (by omega)⟩
structure BldI (l:List Bx) (k:Nat) (s:List Nd×List Int):Prop where
 t:TreeN k s
 box:∀j,j<k→(s.1.getD j zNd).1=l.getD j zBx
 len:(k=0→s.2.length=0)∧(0<k→(s.2.length:Int)=(l.getD (k-1) zBx).1+1)
 path:∀t,t<s.2.length→s.2.getD t 0=parFrom l t k
theorem bif_and {c x:Bool} (h:(bif !c then x else true)=false):c=false∧x=false:=by
 cases c with
 | true=>cases h
 | false=>exact⟨rfl,h⟩
theorem rootB_of {b:Bx} (h:rootX b=false):rootB b.1 b.2.1 b.2.2.2.1 b.2.2.2.2.1 b.2.2.2.2.2.2.1.1 b.2.2.2.2.2.2.1.2.1 b.2.2.2.2.2.2.1.2.2.1 b.2.2.2.2.2.2.1.2.2.2=true:=by
 unfold rootX at h
 obtain⟨h1,h⟩:=bif_and h
 obtain⟨h2,h⟩:=bif_and h
 obtain⟨h3,h⟩:=bif_and h
 obtain⟨h4,h⟩:=bif_and h
 have g1:=bne_zero h1
 have g2:b.2.1=3:=by simpa using h2
 have g3:b.2.2.2.2.1≥0:=by have:=of_decide_eq_false h3;omega
 have g4:=bne_zero h4
 rw[Bool.not_eq_false'] at h
 unfold rootB
 rw[h,g1,g2,g4,decide_eq_true g3]
 rfl
theorem bld_chk {l:List Bx} {k:Nat} {s:List Nd×List Int} (h:BldI l k s) (hc:∀j,j<k+1→ck6 l j=0):chkN s.1 (l.getD k zBx) (parN s.2 (l.getD k zBx).1)=0:=by
 obtain⟨c1,c2,c3,c4⟩:=ck6_zero (hc k (by omega))
 have hlen:=h.t.len
 have hd:=ck_depth (hc k (by omega)) (fun e=>(ck6_zero (hc (k-1) (by omega))).2.1)
 unfold chkN chkT
 rw[hlen,chkB_ok (c33b_ok c2)]
 rw[show ((k:Int)==65536)=false from beq_eq_false_iff_ne.2 (by omega),cond_false]
 rw[show ((0:Int) != 0)=false from rfl,cond_false]
 rcases Nat.eq_zero_or_pos k with hk | hk
 · rw[show ((k:Int)==0)=true by simp[hk],cond_true,rootB_of (c3 hk)]
   rfl
 · rw[show ((k:Int)==0)=false from beq_eq_false_iff_ne.2 (by omega),cond_false]
   obtain⟨d1,d2⟩:=hd.2.2.2 hk
   have hl:=h.len.2 hk
   obtain⟨n1,n2⟩:=c4 hk
   obtain⟨p1,m,p2,p3,p4⟩:=par_pos (fun j hj=>hc j (by omega)) hk n1 c2
   rw[p1,p3,Int.toNat_natCast] at n2
   have hpar:parN s.2 (l.getD k zBx).1=(m:Int):=by
    unfold parN
    rw[decide_eq_true (by omega:(l.getD k zBx).1≥1),cond_true,decide_eq_true (by omega:(l.getD k zBx).1≤(s.2.length:Int)),cond_true,h.path _ (by omega),←p3]
    congr 1
    omega
   rw[hpar,decide_eq_true (by omega:(m:Int)≥0),cond_true,Int.toNat_natCast,h.box m p2]
   have k1:=(c33b_ok (ck6_zero (hc m (by omega))).2.1).k
   have k2:=(c33b_ok c2).k
   rw[fits_eq _ _ k1 k2,n2]
   rfl
theorem bld_step {l:List Bx} {k:Nat} {s:List Nd×List Int} (h:BldI l k s) (hc:∀j,j<k+1→ck6 l j=0):BldI l (k+1) (stepN s (l.getD k zBx) k):=by
 have hchk:=bld_chk h hc
 have hd:=ck_depth (hc k (by omega)) (fun e=>(ck6_zero (hc (k-1) (by omega))).2.1)
 have hplt:parN s.2 (l.getD k zBx).1<k:=by
  by_cases hp:0≤parN s.2 (l.getD k zBx).1
  · obtain⟨q1,q2,q3⟩:=parN_get (path:=s.2) hp (fun t ht=>(h.t.el t ht).1)
    have:=h.t.el ((l.getD k zBx).1-1).toNat (by omega);omega
  · omega
 have hdl:(l.getD k zBx).1.toNat≤s.2.length:=by
  rcases Nat.eq_zero_or_pos k with hk | hk
  · have:=hd.2.2.1 hk;omega
  · have:=hd.2.2.2 hk
    have:=h.len.2 hk
    omega
 have hl2:(stepN s (l.getD k zBx) k).2.length=(l.getD k zBx).1.toNat+1:=by
  simp only[stepN,List.length_append,List.length_take,List.length_singleton];omega
 refine⟨tree_step h.t hchk,fun j hj => ?_,⟨fun e=>by omega,fun _ => ?_⟩,fun t ht => ?_⟩
 · rcases Nat.lt_or_ge j k with hjk | hjk
   · rw[(step_old (s:=s) h.t.len _ j hjk).1];exact h.box j hjk
   · have:j=k:=by omega
     subst this
     exact (step_new (s:=s) h.t.len _ hplt).1
 · rw[hl2,Nat.add_sub_cancel];omega
 · rw[hl2] at ht
   simp only[parFrom]
   by_cases e:t<(l.getD k zBx).1.toNat
   · rw[show ((l.getD k zBx).1==(t:Int))=false from beq_eq_false_iff_ne.2 (by omega),cond_false]
     simp only[stepN]
     rw[getD_app _ _ _ _ (by rw[List.length_take];omega),getD_take _ _ _ e]
     exact h.path t (by omega)
   · have e2:t=(l.getD k zBx).1.toNat:=by omega
     rw[show ((l.getD k zBx).1==(t:Int))=true from beq_iff_eq.2 (by omega),cond_true]
     simp only[stepN]
     have hlt:(s.2.take (l.getD k zBx).1.toNat).length=t:=by rw[List.length_take];omega
     rw[←hlt,getD_last]
theorem bld_all {l:List Bx} (hc:∀j,j<l.length→ck6 l j=0):∀(f k:Nat) (s:List Nd×List Int),l.length-k=f→k≤l.length→BldI l k s→(buildN (l.drop k) k s).isSome=true
 | 0,k,s,hf,hk,_=>by
  rw[List.drop_of_length_le (by omega)];rfl
 | f+1,k,s,hf,hk,h=>by
  have hlt:k<l.length:=by omega
  rw[List.drop_eq_getElem_cons hlt]
  simp only[buildN]
  have hg:l[k]=l.getD k zBx:=(getD_nat' l zBx k hlt).symm
  rw[hg,bld_chk h (fun j hj=>hc j (by omega))]
  exact bld_all hc f (k+1) _ (by omega) (by omega) (bld_step h (fun j hj=>hc j (by omega)))
theorem build_some {l:List Bx} (h:(chk6 l).2=0):0<l.length∧(buildN l 0 ([],[])).isSome=true:=by
 obtain⟨h1,h2⟩:=chk6_ok h
 refine⟨h1,?_⟩
 have:=bld_all h2 l.length 0 ([],[]) (by omega) (by omega) ⟨tree_nil,fun j hj=>by omega,⟨fun _=>rfl,fun e=>by omega⟩,fun t ht=>by simp at ht⟩
 rwa [List.drop_zero] at this
end Go.Proofs.YtkpjcmiijlpcaaaGreat.W
namespace Go.Proofs.YtkpjcmiijlpcaaaGreat.Aw
open Go
theorem fn_ok2F {P:Program} {T:Tab} {env:Env} (he:EnvOk P env) (hT:TabOk P T) (hm:P.follows .mixedOrders=true) {g:FuncId} {fn:Func} (hf:P.funcs[g]? = some fn) (hname:(fn.name == "runtime.NumGoroutine")=false) (hb:fn.body.isSome=true) {args:List AV} {e0:TypeId} {t:Ty} {xs:List t.den} {v:AV} (hv0:v.refs=[])
 (h:fnB T env fn (bodyOf fn) args [.row e0 t xs] fun v' o'=>newsH o' 0=.row e0 t xs∧Frz (newsH (o'.set 0 .dead)) v' v) (hy:env.ycnt=0∧env.isIt=false:=by exact⟨rfl,rfl⟩):ACalls2 P g args [.row e0 t xs] v [.row e0 t xs]:=by
 obtain⟨c,hc⟩:=Option.isSome_iff_exists.1 hb
 have e:bodyOf fn=c:=by unfold bodyOf;rw[hc];rfl
 rw[e] at h
 refine⟨⟨fn,hf,hname,by rw[hc];rfl⟩,fun S β w vs hrel hvs => ?_⟩
 refine (callsIn_wide (n:=0)).1 (callsIn_of_wp_marks (F:=Wd none) hf hc trivial ?_)
 have hi:=start_inv (π:=⟨1,β,newsH [.row e0 t xs],false⟩) (fn:=fn) (n:=1) (vs:=vs) hrel hvs (fun k _=>ObExt.refl _ _)
 refine code_sound hT hm c env he none (baseB _ _ _) ⟨1,β,newsH [.row e0 t xs],false⟩ (YieldOk.none hy) recs_none (fun h=>by cases h) (fun h=>by cases h) _ _ _ _ S β _ w ⟨_,_,_,⟨rfl,rfl,rfl⟩,hi⟩ rfl h (fun e s S' β' a' w' h1 h2 h3=>end_sound (RP:=fun _ _=>False) hT (fun v' news' S' β' w' u h1 h2 hp h3 => ?_) (fun _ _ _ _ _ _ _ h=>h.elim) e s S' β' a' w' h1 h2 (endP_of h3))
 obtain⟨q1,q2⟩:=h3
 have hne:0<news'.length:=by
  rcases Nat.eq_zero_or_pos news'.length with h | h
  · have:newsH news' 0=.none:=by simp only[newsH,List.getD];rw[List.getElem?_eq_none (by omega)];rfl
    rw[this] at q1;cases q1
  · exact h
 have h0:newsH (news'.set 0 .dead) 0=.dead:=by simp[newsH,List.getD,hne]
 have hk:∀k,k≠0→newsH (news'.set 0 .dead) k=newsH news' k:=fun k hk=>by
  simp only[newsH,List.getD,List.getElem?_set_ne (fun e=>hk e.symm)]
 have hH:∀k,newsH (news'.set 0 .dead) k=newsH news' k∨newsH (news'.set 0 .dead) k=.dead:=fun k=>by
  by_cases e:k=0
  · exact .inr (by rw[e];exact h0)
  · exact .inl (hk k e)
 obtain⟨hr2,hx2⟩:=h1.drop _ hH
 have hβ:β' 0=β 0:=by
  have:=hp 0 (show 0<1 by decide)
  change ObExt (β 0) (.row e0 t xs) (β' 0) (newsH news' 0) at this
  rw[q1] at this
  rcases this with h | ⟨h,_⟩
  · cases h
  · exact h
 have hM:∀b,Mof β [.row e0 t xs] b→(β' 0).has b:=by
  rintro b ⟨i,hl,hg⟩
  cases i with
  | zero=>rw[hβ];exact hg
  | succ i=>simp[newsH] at hl;cases hl
 have hl0:(newsH news' 0).live=true:=by rw[q1];rfl
 have hown:∀b,ownB β' (newsH (news'.set 0 .dead)) b→(∃k,k≠0∧(newsH news' k).live=true∧(β' k).has b)∧w.heap.size≤b∧b<w'.heap.size:=by
  rintro b ⟨k,hl,hg⟩
  have hk0:k≠0:=fun e=>by rw[e,h0] at hl;cases hl
  rw[hk k hk0] at hl
  obtain⟨g1,g2,_⟩:=h1.own k b hl hg
  refine⟨⟨k,hk0,hl,hg⟩,?_,g2⟩
  rcases g1 with g1 | g1
  · exact absurd (h1.dis k 0 b hl hl0 hg (hM b g1)) hk0
  · exact g1
 let S2:Nat→Prop:=fun b=>S' b∨ownB β' (newsH (news'.set 0 .dead)) b
 have hz:=q2.of hr2 (S1:=S2) (fun b hb=>.inl hb) (fun k g h1 h2=>.inr ⟨k,h1,h2⟩) _ (VL.ext hx2 _ _ h2)
 have hz2:VLs S2 w' β' (newsH [.row e0 t xs]) [v] [u]:=VLs.any [v] [u] (by simp[hv0]) ⟨u,[],rfl,hz,rfl⟩
 obtain⟨u',r',eu,hzu,_⟩:=hz2
 cases eu
 have hnew:∀k,k≠0→newsH [.row e0 t xs] k=.none:=fun k hk=>by
  cases k with
  | zero=>exact absurd rfl hk
  | succ k=>simp[newsH]
 refine⟨u,rfl,S2,β',⟨h1.fr,fun b hb=>.inl (h1.s0 b hb),fun b hb => ?_,fun k b hl hg => ?_,fun k k' b hl hl' hg hg' => ?_,fun k => ?_⟩,hzu,fun i hi => ?_⟩
 · rcases hb with hb | hb
   · exact h1.sS b hb
   · obtain⟨_,g1,g2⟩:=hown b hb
     exact⟨g2,.inr g1⟩
 · have hk0:k=0:=by
    by_cases e:k=0
    · exact e
    · rw[hnew k e] at hl;cases hl
   subst hk0
   obtain⟨g1,g2,g3⟩:=h1.own 0 b hl0 hg
   refine⟨g1,g2,fun hb => ?_⟩
   rcases hb with hb | hb
   · exact g3 hb
   · obtain⟨⟨k,e1,e2,e3⟩,_⟩:=hown b hb
     exact e1 (h1.dis k 0 b e2 hl0 e3 hg)
 · have e1:k=0:=by
    by_cases e:k=0
    · exact e
    · rw[hnew k e] at hl;cases hl
   have e2:k'=0:=by
    by_cases e:k'=0
    · exact e
    · rw[hnew k' e] at hl';cases hl'
   rw[e1,e2]
 · by_cases e:k=0
   · subst e
     have hob:=h1.ob 0
     rw[q1] at hob
     show ObR S2 w' β' (newsH [.row e0 t xs]) (β' 0) (.row e0 t xs)
     rcases hob with hob | ⟨g,cur,r1,r2,r3,r4,r5,r6⟩
     · exact .inl hob
     · exact .inr ⟨g,cur,r1,r2,r3,r4,r5,Cat.dr_mono (fun b hb=>⟨.inl hb,rfl⟩) r6⟩
   · rw[hnew k e];trivial
 · have e:i=0:=by simp at hi;omega
   subst e
   have:=hp 0 (show 0<1 by decide)
   rwa [q1] at this
end Go.Proofs.YtkpjcmiijlpcaaaGreat.Aw
