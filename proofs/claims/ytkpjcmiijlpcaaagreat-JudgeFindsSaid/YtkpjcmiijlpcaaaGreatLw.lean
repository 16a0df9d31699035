/- All that the program finds, in order. -/
import Derived.Test.YtkpjcmiijlpcaaaGreatPu
set_option linter.unusedVariables false
set_option linter.unusedSimpArgs false
namespace Go.Proofs.YtkpjcmiijlpcaaaGreat.W
open Go Go.Proofs Go.Proofs.YtkpjcmiijlpcaaaGreat.Aw
theorem agStep_app (xs:List Nd) (bs:List R4) (r:R4) (u a:Int) (fs:List Ft) (i:Int):agStep xs bs r u a fs i=fs++bif meetR (mgL xs bs i) r then [(u,a,i)] else []:=fnd_app _ _ _
theorem part_not {l:List Bx} (gs:List R4) {k:Nat} (h2:(l.getD k zBx).2.1≠2):partP l gs k=(ahd l k).flatMap (eR l gs 7 k):=by
 have kk:((l.getD k zBx).2.1 != 2)=true:=bne_iff_ne.2 h2
 have kf:((l.getD k zBx).2.1==2)=false:=beq_eq_false_iff_ne.2 h2
 have hs:sdI l gs k=[]:=by
  unfold sdI
  cases decide (0<k)
  · rfl
  · rw[kf];rfl
 unfold partP
 rw[hs,List.nil_append]
 refine flat_cong _ fun i _ => ?_
 have p2:pairX l gs 2 k i=false:=by
  show (bif (l.getD k zBx).2.1 != 2 then false else meet6 (mg6 l gs k) (mg6 l gs i))=_
  rw[kk];rfl
 have p3:pairX l gs 3 k i=false:=by
  show (bif (l.getD k zBx).2.1 != 2 then false else decide ((mg6 l gs k).2.1<(mg6 l gs i).2.1))=_
  rw[kk];rfl
 have p5:pairX l gs 5 k i=false:=by
  show (bif (l.getD k zBx).2.1 != 2 then false else (bif clr6 (l.getD k zBx).2.2.2.1 (l.getD i zBx).2.2.1 then decide ((mg6 l gs k).2.1<(mg6 l gs i).2.2.2) else false))=_
  rw[kk];rfl
 unfold eR
 rw[p2,p3,p5]
 rfl
theorem step_part {l:List Bx} {xs:List Nd} (h:TreeL l xs) (hl:l.length≤8192) {gs:List R4} (hg:gs.any badR=false) (fs:List Ft) {k:Nat} (h0:0<k) (h1:k<l.length):j1Step xs gs fs (k:Int)=fs++partP l gs k:=by
 unfold j1Step
 rw[h.bx (j:=(k:Int)) (by omega) (by omega),Int.toNat_natCast]
 by_cases h2:(l.getD k zBx).2.1=2
 · rw[h2]
   exact fl_part h hl hg fs h0 h1 h2
 · rw[show ((l.getD k zBx).2.1==2)=false from beq_eq_false_iff_ne.2 h2,cond_false,part_not gs h2]
   by_cases h3:(l.getD k zBx).2.1=3
   · rw[h3]
     show agL xs gs (ndAt xs (k:Int)).2.2.2.1 (k:Int) (gs.getD k (0,0,0,0)) 7 (k:Int) fs=_
     unfold agL
     rw[ahd_eq h hl h0 h1,fold_app (agStep_app xs gs _ 7 _),flat_map']
     congr 1
     refine flat_cong _ fun i hi => ?_
     obtain⟨i0,i1,i2⟩:=ahd_mem hi
     have smi:=mg6_sm h hg (j:=(i:Int)) (by omega) (by omega)
     rw[mg_eq h gs (j:=(i:Int)) (by omega) (by omega),meet_sym6 smi (ge_get hg k).sm]
     have p7:pairX l gs 7 k i=meet6 (gs.getD k (0,0,0,0)) (mg6 l gs i):=by
      show (bif (l.getD k zBx).2.1==3 then meet6 (gs.getD k (0,0,0,0)) (mg6 l gs i) else false)=_
      rw[h3];rfl
     unfold eR
     rw[p7]
   · rw[show ((l.getD k zBx).2.1==3)=false from beq_eq_false_iff_ne.2 h3,cond_false]
     have:(ahd l k).flatMap (eR l gs 7 k)=[]:=by
      rw[flat_cong (g:=fun _=>[]) _ fun i _ => ?_]
      · simp
      · unfold eR
        rw[show pairX l gs 7 k i=false from by
         show (bif (l.getD k zBx).2.1==3 then meet6 (gs.getD k (0,0,0,0)) (mg6 l gs i) else false)=_
         rw[show ((l.getD k zBx).2.1==3)=false from beq_eq_false_iff_ne.2 h3];rfl]
        rfl
     rw[this,List.append_nil]
theorem part_zero {l:List Bx} (gs:List R4):partP l gs 0=[]:=rfl
theorem j1_eq {l:List Bx} {xs:List Nd} (h:TreeL l xs) (hl:l.length≤8192) {gs:List R4} (hg:gs.any badR=false):∀k:Nat,k<l.length→j1L xs gs k=(List.range (k+1)).flatMap (partP l gs)
 | 0,_=>by simp[j1L,part_zero]
 | k+1,hk=>by
  rw[j1L,j1_eq h hl hg k (by omega),step_part h hl hg _ (by omega) hk,range_flat (partP l gs) (k+1)]
theorem right_kind {l:List Bx} {n:Ln} (h:rightX l n=true):(l.getD n.1.toNat zBx).2.1=4:=by
 unfold rightX at h
 by_cases h3:(l.getD n.1.toNat zBx).2.1=4
 · exact h3
 · rw[show (!(l.getD n.1.toNat zBx).2.1 != 4)=false by rw[show ((l.getD n.1.toNat zBx).2.1 != 4)=true from bne_iff_ne.2 h3];rfl,cond_false] at h
   cases h1:(!decide (n.1<0))<;>cases h2:(!decide (n.1≥(l.length:Int)))<;>rw[h1,h2] at h<;>cases h
theorem line_part {l:List Bx} {xs:List Nd} (h:TreeL l xs) (hl:l.length≤4096) {gs:List R4} (hg:gs.any badR=false) {gl:List Ln} (hgl:(gl.any fun x=>badR x.2.1)=false) (hr:∀x∈gl,x.2.2.2≤9223372036854775807) (fs:List Ft) {k:Nat} (hk:k<gl.length):j2Step xs gs fs (k:Int) (gl.getD k zLn)=fs++(lnI l gl k++agI l gs gl k):=by
 have hm:=getD_memN gl k hk zLn
 unfold j2Step lnI agI
 rw[right_eq h hl (gl.getD k zLn) (hr _ hm)]
 cases hx:rightX l (gl.getD k zLn) with
 | false=>
  rw[cond_false,Bool.not_false,cond_true,cond_false,fnd_app]
  rfl
 | true=>
  obtain⟨a0,a1⟩:=right_at hx
  have hkind:0<(gl.getD k zLn).1:=by
   rcases Int.lt_or_eq_of_le a0 with q | q
   · exact q
   · exfalso
     have h4:=right_kind hx
     rw[←q] at h4
     have ho:=h.t.root
     have ho:openB (ndAt xs 0).1.2.1=true:=ho
     rw[h.bx (j:=0) (by omega) (by have:=h.pos;omega)] at ho
     have h4:(l.getD (0:Int).toNat zBx).2.1=4:=h4
     rw[h4] at ho
     cases ho
  have smb:Sm (gl.getD k zLn).2.1:=(badR_no (by have:=List.any_eq_false.1 hgl _ hm;simpa using this)).sm
  rw[cond_true,Bool.not_true,cond_false,cond_true,List.nil_append]
  unfold agL
  rw[show (ndAt xs (gl.getD k zLn).1).2.2.2.1=ctx6 l (gl.getD k zLn).1 from (h.ctx hkind a1).symm,flt_eq h (by omega),fold_app (agStep_app xs gs _ 6 _),flat_map']
  congr 1
  unfold agE
  rw[←flat_filter]
  refine flat_cong _ fun i hi => ?_
  have hi:=List.mem_range.1 hi
  have smi:=mg6_sm h hg (j:=(i:Int)) (by omega) (by omega)
  rw[mg_eq h gs (j:=(i:Int)) (by omega) (by omega),meet_eq6 smi smb]
  cases ahX l i (gl.getD k zLn).2.2.1 (ctx6 l (gl.getD k zLn).1)<;>rfl
theorem j2_eq {l:List Bx} {xs:List Nd} (h:TreeL l xs) (hl:l.length≤4096) {gs:List R4} (hg:gs.any badR=false) {gl:List Ln} (hgl:(gl.any fun x=>badR x.2.1)=false) (hr:∀x∈gl,x.2.2.2≤9223372036854775807) (f0:List Ft):∀k:Nat,k≤gl.length→j2L xs gs gl f0 k=f0++(List.range k).flatMap fun k=>lnI l gl k++agI l gs gl k
 | 0,_=>by simp[j2L]
 | k+1,hk=>by
  rw[j2L,j2_eq h hl hg hgl hr f0 k (by omega),line_part h hl hg hgl hr _ (by omega),List.append_assoc,range_flat (fun k=>lnI l gl k++agI l gs gl k) k]
theorem judge_perm {l:List Bx} {xs:List Nd} (h:TreeL l xs) (hl:l.length≤4096) {gs:List R4} (hg:gs.any badR=false) {gl:List Ln} (hgl:(gl.any fun x=>badR x.2.1)=false) (hr:∀x∈gl,x.2.2.2≤9223372036854775807) (he:gs.length=l.length):(judgeL xs gs gl).Perm (refJ l gs gl):=by
 have hp:=h.pos
 unfold judgeL refJ
 rw[if_pos he,j2_eq h hl hg hgl hr _ _ (Nat.le_refl _),j1_eq h (by omega) hg _ (by rw[h.len];omega),h.len,show l.length-1+1=l.length by omega]
 refine ((parts_perm l gs).append (lines_perm l gs gl)).trans ?_
 generalize sdR l gs=s
 generalize prR l gs 2=p2
 generalize prR l gs 3=p3
 generalize prR l gs 5=p5
 generalize prR l gs 7=p7
 generalize lnR l gl=n
 generalize agR l gs gl=a
 refine List.perm_iff_count.2 fun x => ?_
 simp only[List.count_append]
 omega
end Go.Proofs.YtkpjcmiijlpcaaaGreat.W
set_option linter.unusedVariables false
set_option linter.unusedSimpArgs false
namespace Go.Proofs.YtkpjcmiijlpcaaaGreat.W
open Go Go.Proofs Go.Proofs.YtkpjcmiijlpcaaaGreat.Aw Go.Sort
def ltF (x y:Ft):Prop:=x.1<y.1∨x.1=y.1∧(x.2.1<y.2.1∨x.2.1=y.2.1∧x.2.2<y.2.2)
theorem flat_ord (R:Ft→Ft→Prop) (g:Nat→List Ft) (h1:∀k,(g k).Pairwise R) (h2:∀j k x y,j<k→x∈g j→y∈g k→R x y):∀n,((List.range n).flatMap g).Pairwise R
 | 0=>by simp
 | n+1=>by
  rw[range_flat,List.pairwise_append]
  refine⟨flat_ord R g h1 h2 n,h1 n,fun x hx y hy => ?_⟩
  obtain⟨j,hj,hx⟩:=List.mem_flatMap.1 hx
  exact h2 j n x y (List.mem_range.1 hj) hx hy
theorem bif_mem {c:Bool} {x y:Ft} (h:y∈(bif c then [x] else [])):y=x:=by
 cases c
 · simp at h
 · simpa using h
theorem bif_ord (R:Ft→Ft→Prop) (c:Bool) (x:Ft):(bif c then [x] else []).Pairwise R:=by cases c<;>simp
theorem flat_mem {P:Ft→Prop} {g:Nat→List Ft} (h:∀k,∀x∈g k,P x) (n:Nat):∀x∈(List.range n).flatMap g,P x:=by
 intro x hx
 obtain⟨j,_,hx⟩:=List.mem_flatMap.1 hx
 exact h j x hx
theorem prE_mem {l:List Bx} {gs:List R4} {r:Int} {k i:Nat} {x:Ft} (h:x∈prE l gs r k i):x=(r,(k:Int),(i:Int)):=bif_mem h
theorem agE_mem {l:List Bx} {gs:List R4} {gl:List Ln} {k i:Nat} {x:Ft} (h:x∈agE l gs gl k i):x=(6,(k:Int),(i:Int)):=bif_mem h
theorem prI_ord (l:List Bx) (gs:List R4) (r:Int) (k:Nat):(prI l gs r k).Pairwise ltF:=
 flat_ord _ _ (fun i=>bif_ord _ _ _) (fun i j x y hij hx hy=>by rw[prE_mem hx,prE_mem hy];exact .inr ⟨rfl,.inr ⟨rfl,by show (i:Int)<j;omega⟩⟩) k
theorem prI_mem {l:List Bx} {gs:List R4} {r:Int} {k:Nat}:∀x∈prI l gs r k,x.1=r∧x.2.1=k:=flat_mem (fun i x hx=>by rw[prE_mem hx];exact⟨rfl,rfl⟩) k
theorem prR_ord (l:List Bx) (gs:List R4) (r:Int):(prR l gs r).Pairwise ltF:=
 flat_ord _ _ (prI_ord l gs r) (fun j k x y hjk hx hy=>by
  obtain⟨a,b⟩:=prI_mem x hx
  obtain⟨c,d⟩:=prI_mem y hy
  exact .inr ⟨by omega,.inl (by omega)⟩) _
theorem prR_mem {l:List Bx} {gs:List R4} {r:Int}:∀x∈prR l gs r,x.1=r:=flat_mem (fun k x hx=>(prI_mem x hx).1) _
theorem agI_mem {l:List Bx} {gs:List R4} {gl:List Ln} {k:Nat}:∀x∈agI l gs gl k,x.1=6∧x.2.1=k:=by
 unfold agI
 cases rightX l (gl.getD k zLn)
 · simp
 · exact flat_mem (fun i x hx=>by rw[agE_mem hx];exact⟨rfl,rfl⟩) _
theorem agI_ord (l:List Bx) (gs:List R4) (gl:List Ln) (k:Nat):(agI l gs gl k).Pairwise ltF:=by
 unfold agI
 cases rightX l (gl.getD k zLn)
 · simp
 · exact flat_ord _ _ (fun i=>bif_ord _ _ _) (fun i j x y hij hx hy=>by rw[agE_mem hx,agE_mem hy];exact .inr ⟨rfl,.inr ⟨rfl,by show (i:Int)<j;omega⟩⟩) _
theorem agR_ord (l:List Bx) (gs:List R4) (gl:List Ln):(agR l gs gl).Pairwise ltF:=
 flat_ord _ _ (agI_ord l gs gl) (fun j k x y hjk hx hy=>by
  obtain⟨a,b⟩:=agI_mem x hx
  obtain⟨c,d⟩:=agI_mem y hy
  exact .inr ⟨by omega,.inl (by omega)⟩) _
theorem agR_mem {l:List Bx} {gs:List R4} {gl:List Ln}:∀x∈agR l gs gl,x.1=6:=flat_mem (fun k x hx=>(agI_mem x hx).1) _
theorem lnI_mem {l:List Bx} {gl:List Ln} {k:Nat} {x:Ft} (h:x∈lnI l gl k):x=(1,(k:Int),-1):=bif_mem h
theorem lnR_ord (l:List Bx) (gl:List Ln):(lnR l gl).Pairwise ltF:=
 flat_ord _ _ (fun k=>bif_ord _ _ _) (fun j k x y hjk hx hy=>by rw[lnI_mem hx,lnI_mem hy];exact .inr ⟨rfl,.inl (by show (j:Int)<k;omega)⟩) _
theorem lnR_mem {l:List Bx} {gl:List Ln}:∀x∈lnR l gl,x.1=1:=flat_mem (fun k x hx=>by rw[lnI_mem hx]) _
theorem sdI_mem {l:List Bx} {gs:List R4} {k:Nat} {x:Ft} (h:x∈sdI l gs k):x=(4,(k:Int),par6 l k):=by
 unfold sdI at h
 cases h0:decide (0<k)
 · rw[h0] at h;simp at h
 · rw[h0] at h;exact bif_mem h
theorem sdR_ord (l:List Bx) (gs:List R4):(sdR l gs).Pairwise ltF:=
 flat_ord _ _ (fun k=>by
  unfold sdI
  cases decide (0<k)
  · simp
  · exact bif_ord _ _ _) (fun j k x y hjk hx hy=>by rw[sdI_mem hx,sdI_mem hy];exact .inr ⟨rfl,.inl (by show (j:Int)<k;omega)⟩) _
theorem sdR_mem {l:List Bx} {gs:List R4}:∀x∈sdR l gs,x.1=4:=flat_mem (fun k x hx=>by rw[sdI_mem hx]) _
theorem app_ord {a b:List Ft} (ha:a.Pairwise ltF) (hb:b.Pairwise ltF) (h:∀x∈a,∀y∈b,x.1<y.1):(a++b).Pairwise ltF:=
 List.pairwise_append.2 ⟨ha,hb,fun x hx y hy=>.inl (h x hx y hy)⟩
theorem refJ_ord (l:List Bx) (gs:List R4) (gl:List Ln) (he:gs.length=l.length):(refJ l gs gl).Pairwise ltF:=by
 unfold refJ
 rw[if_pos he]
 have m1:=@lnR_mem l gl
 have m2:=@prR_mem l gs 2
 have m3:=@prR_mem l gs 3
 have m4:=@sdR_mem l gs
 have m5:=@prR_mem l gs 5
 have m6:=@agR_mem l gs gl
 have m7:=@prR_mem l gs 7
 refine app_ord (app_ord (app_ord (app_ord (app_ord (app_ord (lnR_ord l gl) (prR_ord l gs 2) ?_) (prR_ord l gs 3) ?_) (sdR_ord l gs) ?_) (prR_ord l gs 5) ?_) (agR_ord l gs gl) ?_) (prR_ord l gs 7) ?_<;>intro x hx y hy<;>(try simp only[List.mem_append] at hx)
 · rw[m1 x hx,m2 y hy];decide
 · rw[m3 y hy];rcases hx with hx | hx<;>first | (rw[m1 x hx];decide) | (rw[m2 x hx];decide)
 · rw[m4 y hy];rcases hx with (hx | hx) | hx<;>first | (rw[m1 x hx];decide) | (rw[m2 x hx];decide) | (rw[m3 x hx];decide)
 · rw[m5 y hy];rcases hx with ((hx | hx) | hx) | hx<;>first | (rw[m1 x hx];decide) | (rw[m2 x hx];decide) | (rw[m3 x hx];decide) | (rw[m4 x hx];decide)
 · rw[m6 y hy];rcases hx with (((hx | hx) | hx) | hx) | hx<;>first | (rw[m1 x hx];decide) | (rw[m2 x hx];decide) | (rw[m3 x hx];decide) | (rw[m4 x hx];decide) | (rw[m5 x hx];decide)
 · rw[m7 y hy];rcases hx with ((((hx | hx) | hx) | hx) | hx) | hx<;>first | (rw[m1 x hx];decide) | (rw[m2 x hx];decide) | (rw[m3 x hx];decide) | (rw[m4 x hx];decide) | (rw[m5 x hx];decide) | (rw[m6 x hx];decide)
theorem srt_of {a b:List Ft} (hp:a.Perm b) (hb:b.Pairwise ltF):srtF a=b:=by
 have hs:(srtF a).Pairwise fun x y=>(!(ltOf cmpF) y x)=true:=by
  unfold srtF
  refine List.pairwise_mergeSort (fun x y z h1 h2 => ?_) (fun x y => ?_) a
  · rw[lt_iff] at *
    simp only[Bool.not_eq_true',decide_eq_false_iff_not] at *
    omega
  · rw[lt_iff,lt_iff]
    simp only[Bool.or_eq_true,Bool.not_eq_true',decide_eq_false_iff_not]
    omega
 have hb':b.Pairwise fun x y=>(!(ltOf cmpF) y x)=true:=hb.imp fun {x y} h=>by
  unfold ltF at h
  rw[lt_iff]
  simp only[Bool.not_eq_true',decide_eq_false_iff_not]
  omega
 refine List.Perm.eq_of_pairwise (fun x y _ _ h1 h2 => ?_) hs hb' ((srt_perm a).trans hp)
 exact lt_total x y (by simpa using h2) (by simpa using h1)
theorem judge_eq {l:List Bx} {xs:List Nd} (h:TreeL l xs) (hl:l.length≤4096) {gs:List R4} (hg:gs.any badR=false) {gl:List Ln} (hgl:(gl.any fun x=>badR x.2.1)=false) (hr:∀x∈gl,x.2.2.2≤9223372036854775807):judgeA xs gs gl=refJ l gs gl:=by
 unfold judgeA
 by_cases he:gs.length=l.length
 · rw[if_pos (by rw[h.len];exact he.symm)]
   exact srt_of (judge_perm h hl hg hgl hr he) (refJ_ord l gs gl he)
 · rw[if_neg (by rw[h.len];exact fun e=>he e.symm)]
   unfold refJ
   rw[if_neg he]
end Go.Proofs.YtkpjcmiijlpcaaaGreat.W
set_option linter.unusedVariables false
set_option linter.unusedSimpArgs false
namespace Go.Proofs.YtkpjcmiijlpcaaaGreat.W
open Go Go.Proofs Go.Proofs.YtkpjcmiijlpcaaaGreat.Aw
theorem law3 (x:ArgsDen [(false,.list 80 TB),(true,.pair (.list 46 T4) (.list 48 TL))]) (h:OkArgs [(false,.list 80 TB),(true,.pair (.list 46 T4) (.list 48 TL))] x):ACalls Tryz.prog 3 (argsA [(false,.list 80 TB),(true,.pair (.list 46 T4) (.list 48 TL))] x) (.bool true) []:=by
 obtain⟨l,⟨gs,gl⟩,u⟩:=x
 change List Bx at l
 change List R4 at gs
 change List Ln at gl
 have hgl:∀x∈gl,x.2.2.2≤9223372036854775807:=fun x hx=>(i64_of _ (h.2.1.2.2 x hx).2.2.2).2
 cases hb:begBad l gs gl 30 with
 | true=>exact ok3_n [.list 80 TB l,.agg (.cons (.list 46 T4 gs) (.cons (.list 48 TL gl) .nl))] _ rfl (fun p hp=>by simp only[List.mem_singleton] at hp;rw[hp];exact hb)
 | false=>
  obtain⟨b1,b2,b3,b4,b5,b6⟩:=beg_ok hb
  obtain⟨hl0,hs⟩:=build_some b1
  obtain⟨xs,hx⟩:=Option.isSome_iff_exists.1 hs
  have ht:=treeL b1 hx
  have he:(buildN l 0 ([],[])).getD []=xs:=by rw[hx];rfl
  refine ok3_t [.list 80 TB l,.agg (.cons (.list 46 T4 gs) (.cons (.list 48 TL gl) .nl))] _ rfl (fun p hp => ?_)
  simp only[List.mem_cons,List.not_mem_nil,or_false] at hp
  rcases hp with rfl | rfl | rfl
  · exact hb
  · rw[he];exact judge_eq ht (by omega) b5 b6 hgl
  · exact fun k k0 k1=>(ht.parN (j:=(k:Int)) (by omega) (by omega)).1
end Go.Proofs.YtkpjcmiijlpcaaaGreat.W
