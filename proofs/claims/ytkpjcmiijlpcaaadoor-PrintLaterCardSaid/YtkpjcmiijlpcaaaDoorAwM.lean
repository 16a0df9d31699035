/- An abstract program logic over the model, thirteenth part: slices that are built or cut; e. -/
import Derived.Test.YtkpjcmiijlpcaaaDoorAwL
import Derived.Laws.MakeOwn
import Derived.Great.BuildSlice
namespace Go.Proofs.YtkpjcmiijlpcaaaDoor.Aw
open Go
section
variable {P:Program} {T:Tab} {env:Env} {M S0:Nat→Prop} {w0:World} {S:Nat→Prop} {β:Nat→Cr} {H:Nat→Ob} {w:World} {o:Oper} {a:Act} {ev:Operand→AV} {nid:Nat} {r:Res}
theorem cat_madeO {ty:Ty} {z:Array Value} {x:ty.den} (h:DRo S w ty x z.toList []) (hp:0<z.size):∀n:Nat,CatO S w ty (List.replicate n x) (((Array.range (n*z.size)).map (z[· % z.size]!)).toList) []
 | 0=>by simp[CatO]
 | n+1=>by
  rw[made_succ z hp n,List.replicate_succ']
  exact CatO.append _ _ _ _ _ _ (cat_madeO h hp n) ⟨_,[],[],[],by simp,rfl,h,rfl,rfl⟩
theorem zeros_of {z:Array Value} {zs:List AV} (h:VLs S w β H zs z.toList) (hp:0<z.size):∀n:Nat,VLs S w β H (List.replicate n zs).flatten (((Array.range (n*z.size)).map (z[· % z.size]!)).toList)
 | 0=>by simp[VLs]
 | n+1=>by
  have ih:=zeros_of h hp n
  have e:((Array.range ((n+1)*z.size)).map (z[· % z.size]!)).toList=((Array.range (n*z.size)).map (z[· % z.size]!)).toList++z.toList:=by
   apply List.ext_getElem
   · simp[Nat.add_mul]
   · intro i h1 h2
     simp only[Array.getElem_toList,Array.getElem_map,Array.getElem_range]
     by_cases hi:i<n*z.size
     · rw[List.getElem_append_left (by simpa using hi)]
       simp
     · rw[List.getElem_append_right (by simp;omega)]
       have h3:i<(n+1)*z.size:=by simpa using h1
       rw[Nat.add_mul] at h3
       have hm:i % z.size=i-n*z.size:=by
        rw[show i=(i-n*z.size)+z.size*n by rw[Nat.mul_comm z.size n];omega,Nat.add_mul_mod_self_left,Nat.mod_eq_of_lt (by omega),Nat.mul_comm z.size n]
        omega
       simp only[hm]
       simp only[Array.length_toList,Array.size_map,Array.size_range,Array.getElem_toList]
       rw[getElem!_pos z (i-n*z.size) (by omega)]
  rw[e,List.replicate_succ',List.flatten_append]
  simpa using VLs.append _ _ _ _ ih h
theorem foldl_size (off:Nat):∀(l:List (Value×Nat)) (cs:Array Value),(l.foldl (fun cs x=>cs.setIfInBounds (off+x.2) x.1) cs).size=cs.size
 | [],_=>rfl
 | x::l,cs=>by rw[List.foldl_cons,foldl_size off l];simp
theorem fill_size {place:Nat→Option (Nat×Nat)}:∀(ps:List (Nat×Value)) (cs cs':Array Value),Instr.fill place cs ps=some cs'→cs'.size=cs.size
 | [],cs,cs',h=>by simp only[Instr.fill,Option.some.injEq] at h;rw[h]
 | (i,v)::ps,cs,cs',h=>by
  simp only[Instr.fill] at h
  split at h
  · cases h
  · split at h
    · cases h
    · rw[fill_size ps _ cs' h,←Array.foldl_toList]
      exact foldl_size _ _ cs
theorem run_buildSlice_none (w:World) (t e:TypeId) (ie:TypeInfo) (hu:P.underlying t=some (.slice e)) (hie:P.info? e=some ie) :
 (Instr.buildSlice t 0 #[]).run P w=.ok (.slice (some ⟨w.heap.size,0,none⟩) 0 0) (w.alloc (.cells #[] e)):=by
 have e0:Array.range 0 = #[]:=rfl
 simp[Instr.buildSlice,run_underlying hu,sizeOf,typeInfo,hie,newRow,Instr.fill,e0]
theorem s_buildSlice {t:TypeId} {n:Nat} {ps:Array (Nat×Operand)} (ho:o.op=.buildSlice t n ps) (c:Cx P T M S0 w0 S β H w a ev nid r) (hs:semOp T env ev H nid o=some r):Goes P M S0 w0 S β H w o a r:=by
 simp only[semOp,ho] at hs
 have he:execOp a.eval o=(do pure (Next.value (←Instr.buildSlice t n (ps.map fun p=>(p.1,a.eval p.2))))):=by
  simp only[execOp,ho]
 split at hs
 rotate_left
 · cases hs
 rename_i e hd
 have hp:∀sz,(T.at_ e).size=sz→∀f q,partOf T ⟨.array n e,n*sz,0,[],none,false⟩ f=some q→(fun i:Nat=>(some (i*sz,sz):Option (Nat×Nat))) f=some q:=by
  intro sz hsz f q hq
  simp only[partOf] at hq
  split at hq
  · cases hq
  · split at hq
    · cases hq;simp only[hsz]
    · cases hq
 split at hs
 · rename_i ty hte
   split at hs
   rotate_left
   · cases hs
   rename_i hc
   obtain⟨hk,hsz,hpos,hbig⟩:=hc
   split at hs
   rotate_left
   · cases hs
   rename_i l' hf
   split at hs
   rotate_left
   · cases hs
   rename_i xs hdec
   simp only[Option.some.injEq] at hs
   obtain⟨i,z,h1,h2,h3,h4⟩:=zero_of c.hT (known_d hk)
   have hnn:H nid=.none:=c.fresh (by rw[←hs];simp)
   have hi:i.size=ty.size:=h3.trans hsz
   have fin:∀(cs':Array Value),(Instr.buildSlice t n (ps.map fun p=>(p.1,a.eval p.2))).run P w=.ok (.slice (some ⟨w.heap.size,0,none⟩) n n) (w.alloc (.cells cs' e))→cs'.size=n*ty.size→xs.length=n→Cat (DR S w ty) xs cs'.toList→CatO S w ty xs cs'.toList []→Goes P M S0 w0 S β H w o a r:=by
    intro cs' hrun hcl hlen hcat hcatO
    have hmx:n≤maxLen:=by
     have:n*1≤n*ty.size:=Nat.mul_le_mul_left _ hpos
     simp only[maxLen];omega
    obtain⟨hr,hx⟩:=c.rel.new nid hnn cs' e n (bif ty.noOl then .row e ty xs else .orow e ty xs) (fun β' H' w' he hh=>by
     cases ty.noOl
     · refine .inr ⟨_,cs',rfl,hh,Nat.le_of_eq hlen,hmx,hcl,?_,by simp⟩
       rw[hlen,←hcl,←Array.length_toList,List.take_length]
       exact CatO.mono he.hS _ _ _ (fun b hb=>by cases hb) hcatO
     · refine .inr ⟨_,cs',rfl,hh,Nat.le_of_eq hlen,hmx,hcl,?_⟩
       rw[hlen,←hcl,←Array.length_toList,List.take_length]
       exact Cat.dr_mono he.hS hcat)
    subst hs
    intro next Q hnx
    have hv:VL S (w.alloc (.cells cs' e)) (setC β nid ⟨some w.heap.size,n,[]⟩) (updH H [(nid,bif ty.noOl then .row e ty xs else .orow e ty xs)]) (.row nid) [.slice (some ⟨w.heap.size,0,none⟩) n n]:=by
     refine⟨_,rfl,?_⟩
     simp only[leaf,updH_one,setC_one]
     cases ty.noOl<;>simp only[cond_true,cond_false]<;>rw[rowV_some (g:=w.heap.size) rfl,hlen]
    exact wp_val he hrun (hnx _ _ _ _ hr hv hx)
   by_cases hn:n=0
   · subst hn
     have hps:ps = #[]:=by
      match hl:ps.toList with
      | []=>apply Array.toList_inj.1;rw[hl]
      | p::r=>
       rw[hl] at hf
       simp only[List.map_cons,fillL] at hf
       split at hf
       · rename_i q hq
         simp only[partOf] at hq
         split at hq
         · cases hq
         · simp at hq
       · cases hf
     subst hps
     have hxs:xs=[]:=by
      match l',hdec with
      | [],hdec=>simp only[decs,Option.some.injEq] at hdec;exact hdec.symm
     subst hxs
     exact fin #[] (by rw[Array.map_empty];exact run_buildSlice_none w t e i (run_slice_desc c.hT hd) h1) (by simp) rfl rfl ⟨rfl,rfl⟩
   · have hzc:z.cells.size=ty.size:=by
      have h7:=VLs.length _ _ (h4 S w β H)
      rw[←Array.length_toList,h7,(c.hT e (known_d hk)).zl,hsz]
     have hz:=zeros_of (h4 S w β H) (by omega) n
     obtain⟨cs',g1,g2⟩:=fill_of (i:=⟨.array n e,n*ty.size,0,[],none,false⟩) (place:=fun i=>some (i*ty.size,ty.size)) (a:=a) (hp ty.size hsz) c.hev ps.toList _ l' _ hz hf
     obtain⟨hcat,hlen⟩:=decs_of n l' _ xs g2 hdec
     obtain⟨hcatO,_⟩:=decs_ofO n l' _ xs g2 hdec
     have hcl:=Cat.length (DR.length ty) _ _ hcat
     clear hz hf hdec hte
     have k1:¬n*i.size>2 ^ 24:=by
      rw[hi]
      have:(2:Nat) ^ 24=16777216:=by decide
      omega
     have k2:¬n*i.size=0:=by rw[hi];exact Nat.ne_of_gt (Nat.mul_pos (Nat.pos_of_ne_zero hn) hpos)
     have k3:Instr.fill (fun j=>some (j*i.size,i.size)) ((Array.range (n*i.size)).map (z.cells[· % z.cells.size]!)) (ps.map fun p=>(p.1,a.eval p.2)).toList=some cs':=by
      rw[Array.toList_map,hi]
      rw[hzc] at g1 ⊢
      exact g1
     have hrun:=run_buildSlice (P:=P) w t e n (ps.map fun p=>(p.1,a.eval p.2)) cs' i z (run_slice_desc c.hT hd) h1 h2 k1 k2 k3
     clear k1 k2 k3 g1
     have hz1:cs'.size=n*ty.size:=by rw[hlen] at hcl;rw[←hcl,Array.length_toList]
     exact fin cs' hrun hz1 hlen hcat hcatO
 · split at hs
   rotate_left
   · split at hs
     rotate_left
     · cases hs
     rename_i hc
     obtain⟨hk,hpos,hnp,hbig⟩:=hc
     split at hs
     rotate_left
     · cases hs
     rename_i l' hf
     split at hs
     rotate_left
     · cases hs
     rename_i hone
     simp only[Option.some.injEq] at hs
     generalize hszz:(T.at_ e).size=sz at hf hs hpos hbig
     obtain⟨i,z,h1,h2,h3,h4⟩:=zero_of c.hT (known_d hk)
     have hnn:H nid=.none:=c.fresh (by rw[←hs];simp)
     have hi:i.size=sz:=h3.trans hszz
     have hzc:z.cells.size=sz:=by
      have h7:=VLs.length _ _ (h4 S w β H)
      rw[←Array.length_toList,h7,(c.hT e (known_d hk)).zl,hszz]
     have hz:=zeros_of (h4 S w β H) (by omega) n
     obtain⟨cs',g1,g2⟩:=fill_of (i:=⟨.array n e,n*sz,0,[],none,false⟩) (place:=fun i=>some (i*sz,sz)) (a:=a) (hp sz hszz) c.hev ps.toList _ l' _ hz hf
     have k1:¬n*i.size>2 ^ 24:=by
      rw[hi]
      have:(2:Nat) ^ 24=16777216:=by decide
      omega
     have k2:¬n*i.size=0:=by rw[hi];exact Nat.ne_of_gt (Nat.mul_pos hnp hpos)
     have k3:Instr.fill (fun j=>some (j*i.size,i.size)) ((Array.range (n*i.size)).map (z.cells[· % z.cells.size]!)) (ps.map fun p=>(p.1,a.eval p.2)).toList=some cs':=by
      rw[Array.toList_map,hi]
      rw[hzc] at g1 ⊢
      exact g1
     have hrun:=run_buildSlice (P:=P) w t e n (ps.map fun p=>(p.1,a.eval p.2)) cs' i z (run_slice_desc c.hT hd) h1 h2 k1 k2 k3
     obtain⟨hr,hx⟩:=c.rel.new nid hnn cs' e n (.cells e l') (fun β' H' w' he hh=>⟨_,cs'.toList,rfl,hh,VLs.ext he _ _ g2⟩)
     subst hs
     intro next Q hnx
     have hv:VL S (w.alloc (.cells cs' e)) (setC β nid ⟨some w.heap.size,n,[]⟩) (updH H [(nid,.cells e l')]) (.view nid 0 n e (padTy sz)) [.slice (some ⟨w.heap.size,0,none⟩) n n]:=by
      refine⟨_,rfl,?_⟩
      simp only[leaf,updH_one,setC_one]
      exact⟨_,_,rfl,Nat.le_refl _,fun _=>⟨_,rfl,rfl⟩,fun hh=>(by cases hh),Nat.le_refl _⟩
     exact wp_val he hrun (hnx _ _ _ _ hr hv hx)
   rename_i hc
   obtain⟨hk,hsz,hpos,hbig⟩:=hc
   split at hs
   rotate_left
   · cases hs
   rename_i l' hf
   split at hs
   rotate_left
   · cases hs
   rename_i hone
   simp only[Option.some.injEq] at hs
   obtain⟨i,z,h1,h2,h3,h4⟩:=zero_of c.hT (known_d hk)
   have hnn:H nid=.none:=c.fresh (by rw[←hs];simp)
   have hi:i.size=1:=h3.trans hsz
   have hzc:z.cells.size=1:=by
    have h7:=VLs.length _ _ (h4 S w β H)
    rw[←Array.length_toList,h7,(c.hT e (known_d hk)).zl,hsz]
   have hz:=zeros_of (h4 S w β H) (by omega) n
   have hp1:=hp 1 hsz
   rw[Nat.mul_one] at hp1
   obtain⟨cs',g1,g2⟩:=fill_of (i:=⟨.array n e,n,0,[],none,false⟩) (place:=fun i=>some (i*1,1)) (a:=a) hp1 c.hev ps.toList _ l' _ hz hf
   have k1:¬n*i.size>2 ^ 24:=by
    rw[hi]
    have:(2:Nat) ^ 24=16777216:=by decide
    omega
   have k2:¬n*i.size=0:=by rw[hi];omega
   have k3:Instr.fill (fun j=>some (j*i.size,i.size)) ((Array.range (n*i.size)).map (z.cells[· % z.cells.size]!)) (ps.map fun p=>(p.1,a.eval p.2)).toList=some cs':=by
    rw[Array.toList_map,hi]
    rw[hzc] at g1 ⊢
    exact g1
   have hrun:=run_buildSlice (P:=P) w t e n (ps.map fun p=>(p.1,a.eval p.2)) cs' i z (run_slice_desc c.hT hd) h1 h2 k1 k2 k3
   have hcl:cs'.size=n:=by
    have:=fill_size _ _ _ g1
    rw[this]
    simp[hzc]
   have hll:=VLs.length _ _ g2
   rw[Array.length_toList,hcl] at hll
   obtain⟨hr,hx⟩:=c.rel.new nid hnn cs' e n (.prow e l') (fun β' H' w' he hh=>.inr ⟨_,cs',rfl,hh,Nat.le_of_eq hll.symm,by simp only[maxLen];omega,hcl,by
    rw[←hll,←hcl,←Array.length_toList,List.take_length]
    exact VLs.ext he _ _ g2⟩)
   subst hs
   intro next Q hnx
   have hv:VL S (w.alloc (.cells cs' e)) (setC β nid ⟨some w.heap.size,n,[]⟩) (updH H [(nid,.prow e l')]) (.prow nid) [.slice (some ⟨w.heap.size,0,none⟩) n n]:=by
    refine⟨_,rfl,?_⟩
    simp only[leaf,updH_one,setC_one]
    rw[rowV_some (g:=w.heap.size) rfl,←hll]
   exact wp_val he hrun (hnx _ _ _ _ hr hv hx)
theorem Rel.froze (h:Rel M S0 w0 S β H w) (cs:Array Value) (e:TypeId) :
 Rel M S0 w0 (fun b=>S b∨b=w.heap.size) β H (w.alloc (.cells cs e))∧Ext S w β H (fun b=>S b∨b=w.heap.size) (w.alloc (.cells cs e)) β H:=by
 have hx:Ext S w β H (fun b=>S b∨b=w.heap.size) (w.alloc (.cells cs e)) β H:=⟨fun b hs=>⟨.inl hs,heap_alloc_lt w _ b (h.sS b hs).1⟩,fun k=>ObExt.refl _ _⟩
 have hsz:=size_alloc w (.cells cs e)
 refine⟨⟨⟨h.fr.os,h.fr.tape,h.fr.output,by have:=h.fr.size;omega,fun b hlt hm=>(heap_alloc_lt w _ b (Nat.lt_of_lt_of_le hlt h.fr.size)).trans (h.fr.block b hlt hm),h.fr.drawn⟩,fun b hb=>.inl (h.s0 b hb),?_,?_,h.dis,?_,h.gl.mono hx.hS⟩,hx⟩
 · rintro b (hb | rfl)
   · exact⟨by have:=(h.sS b hb).1;omega,(h.sS b hb).2⟩
   · exact⟨by omega,.inr h.fr.size⟩
 · intro k g hl hg
   obtain⟨q1,q2,q3⟩:=h.own k g hl hg
   exact⟨q1,by omega,fun hs=>hs.elim q3 (fun e=>by omega)⟩
 · intro k
   by_cases hl:(H k).live=true
   · exact ObR.ext hx _ _ (fun g hg=>heap_alloc_lt w _ g (h.own k g hl hg).2.1) (h.ob k)
   · exact ObR.idle (by simpa using hl)
theorem s_makeSlice {t:TypeId} {x y:Operand} (ho:o.op=.makeSlice t x y) (c:Cx P T M S0 w0 S β H w a ev nid r) (hs:semOp T env ev H nid o=some r):Goes P M S0 w0 S β H w o a r:=by
 simp only[semOp,ho] at hs
 split at hs
 rotate_left
 · cases hs
 rename_i e k1 l k2 cc hd ex ey
 split at hs
 rotate_left
 · cases hs
 rename_i ty hty
 split at hs
 rotate_left
 · cases hs
 rename_i hk
 obtain⟨hkn,hsz,hpos,hby⟩:=hk
 split at hs
 rotate_left
 · cases hs
 rename_i z hz
 cases hcut:(env.eats.contains (o.dst.getD 0)&&ty.noOl)
 rotate_left
 · simp only[hcut,cond_true,Option.some.injEq] at hs
   have g0:=c.hgs (0≤l) (by rw[←hs];simp)
   have g1:=c.hgs (l=cc) (by rw[←hs];simp)
   have g2:=c.hgs (((T.at_ e).bytes:Int)*cc≤140737488355328) (by rw[←hs];simp)
   subst g1
   obtain⟨i,zv,h1,h2,h3,h4⟩:=zero_of c.hT (known_d hkn)
   have hib:i.bytes=(T.at_ e).bytes:=by
    obtain⟨f,q1,q2,q3,_⟩:=(c.hT e (known_d hkn)).info
    rw[h1] at q1
    cases q1
    exact q3
   have vx:=VL.int (by rw[←ex];exact c.hev x)
   have vy:=VL.int (by rw[←ey];exact c.hev y)
   have hcl:l≤140737488355328:=by
    have:(1:Int)*l≤((T.at_ e).bytes:Int)*l:=Int.mul_le_mul_of_nonneg_right (by omega) (by omega)
    omega
   have hrun:=run_make (P:=P) w t e i zv (run_slice_desc c.hT hd) h1 h2 k1 k2 l l g0 (Int.le_refl _) (by rw[hib];omega) (by omega)
   have hzc:zv.cells.size=ty.size:=by
    have h7:=VLs.length _ _ (h4 S w β H)
    rw[←Array.length_toList,h7,(c.hT e (known_d hkn)).zl,hsz]
   have hi:i.size=ty.size:=h3.trans hsz
   have hzd:=dec1_of (h4 S w β H) hz
   have hcs:(madeCells zv.cells (l.toNat*i.size)).size=l.toNat*ty.size:=by rw[size_madeCells,hi]
   have htk:(madeCells zv.cells (l.toNat*i.size)).toList=((Array.range (l.toNat*zv.cells.size)).map (zv.cells[· % zv.cells.size]!)).toList:=by
    rw[hi,←hzc];rfl
   obtain⟨hr,hx⟩:=c.rel.froze (madeCells zv.cells (l.toNat*i.size)) e
   subst hs
   intro next Q hnx
   have hv:VL (fun b=>S b∨b=w.heap.size) (w.alloc (.cells (madeCells zv.cells (l.toNat*i.size)) e)) β (updH H []) (.tl e ty (rept l.toNat z)) [.slice (some ⟨w.heap.size,0,none⟩) l.toNat l.toNat]:=by
    refine⟨_,rfl,⟨some ⟨w.heap.size,0,none⟩,l.toNat,l.toNat,(madeCells zv.cells (l.toNat*i.size)).toList,rfl,by rw[rept_eq,List.length_replicate],Nat.le_refl _,?_,?_,fun hh=>by cases hh⟩,_,_,rfl⟩
    · rw[rept_eq,htk]
      exact Cat.mono (DR.mono (fun b hb=>hx.hS b hb) ty) _ _ (cat_made hzd (by omega) l.toNat)
    · intro j u hj
      refine⟨_,rfl,.inr rfl,?_⟩
      rw[add_lit,cell_of_row _ w.heap.size _ _ _ _ (heap_alloc_at w _)]
      simpa using hj
   rw[←vx,←vy] at hrun
   rw[←updH_nil H] at hr hx
   exact wp_val (by simp only[execOp,ho]) hrun (hnx _ _ _ _ hr hv hx)
 simp only[hcut,cond_false] at hs
 simp only[Option.some.injEq] at hs
 have g0:=c.hgs (0≤l) (by rw[←hs];simp)
 have g1:=c.hgs (l≤cc) (by rw[←hs];simp)
 have g2:=c.hgs (((T.at_ e).bytes:Int)*cc≤140737488355328) (by rw[←hs];simp)
 have hnn:H nid=.none:=c.fresh (by rw[←hs];simp)
 obtain⟨i,zv,h1,h2,h3,h4⟩:=zero_of c.hT (known_d hkn)
 have hib:i.bytes=(T.at_ e).bytes:=by
  obtain⟨f,q1,q2,q3,_⟩:=(c.hT e (known_d hkn)).info
  rw[h1] at q1
  cases q1
  exact q3
 have vx:=VL.int (by rw[←ex];exact c.hev x)
 have vy:=VL.int (by rw[←ey];exact c.hev y)
 have hcl:cc≤140737488355328:=by
  have:(1:Int)*cc≤((T.at_ e).bytes:Int)*cc:=Int.mul_le_mul_of_nonneg_right (by omega) (by omega)
  omega
 have hrun:=run_make (P:=P) w t e i zv (run_slice_desc c.hT hd) h1 h2 k1 k2 l cc g0 g1 (by rw[hib];omega) (by omega)
 have hzc:zv.cells.size=ty.size:=by
  have h7:=VLs.length _ _ (h4 S w β H)
  rw[←Array.length_toList,h7,(c.hT e (known_d hkn)).zl,hsz]
 have hi:i.size=ty.size:=h3.trans hsz
 have hzd:=dec1_of (h4 S w β H) hz
 have hcs:(madeCells zv.cells (cc.toNat*i.size)).size=cc.toNat*ty.size:=by rw[size_madeCells,hi]
 have htk:(madeCells zv.cells (cc.toNat*i.size)).toList.take (l.toNat*ty.size)=((Array.range (l.toNat*zv.cells.size)).map (zv.cells[· % zv.cells.size]!)).toList:=by
  have hle:l.toNat*ty.size≤cc.toNat*ty.size:=Nat.mul_le_mul_right _ (by omega)
  apply List.ext_getElem
  · simp only[List.length_take,Array.length_toList,hcs,Array.size_map,Array.size_range,hzc]
    omega
  · intro q q1 q2
    simp[madeCells]
 have hzdO:=dec1_ofO (h4 S w β H) hz
 obtain⟨hr,hx⟩:=c.rel.new nid hnn (madeCells zv.cells (cc.toNat*i.size)) e cc.toNat (bif ty.noOl then .row e ty (List.replicate l.toNat z) else .orow e ty (List.replicate l.toNat z)) (fun β' H' w' he hh=>by
  cases ty.noOl
  · refine .inr ⟨_,_,rfl,hh,by simp;omega,by simp only[maxLen];omega,hcs,?_,by simp⟩
    rw[List.length_replicate,htk]
    exact CatO.mono he.hS _ _ _ (fun b hb=>by cases hb) (cat_madeO hzdO (by omega) l.toNat)
  · refine .inr ⟨_,_,rfl,hh,by simp;omega,by simp only[maxLen];omega,hcs,?_⟩
    rw[List.length_replicate,htk]
    exact Cat.mono (DR.mono (fun b hb=>he.hS b hb) ty) _ _ (cat_made hzd (by omega) l.toNat))
 subst hs
 intro next Q hnx
 have hv:VL S (w.alloc (.cells (madeCells zv.cells (cc.toNat*i.size)) e)) (setC β nid ⟨some w.heap.size,cc.toNat,[]⟩) (updH H [(nid,bif ty.noOl then .row e ty (List.replicate l.toNat z) else .orow e ty (List.replicate l.toNat z))]) (.row nid) [.slice (some ⟨w.heap.size,0,none⟩) l.toNat cc.toNat]:=by
  refine⟨_,rfl,?_⟩
  simp only[leaf,updH_one,setC_one]
  cases ty.noOl<;>simp only[cond_true,cond_false]<;>rw[rowV_some (g:=w.heap.size) rfl,List.length_replicate]
 rw[←vx,←vy] at hrun
 exact wp_val (by simp only[execOp,ho]) hrun (hnx _ _ _ _ hr hv hx)
theorem cut_list {e:TypeId} {ty:Ty} {xs:List ty.den} {ao:Option Addr} {n c:Nat} {es:List Value} (e2:n=xs.length) (e3:n≤c) (e4:Cat (DR S w ty) xs es) (e5:Rd S w ao es) (e6:ao=none→c=0) (l h:Nat) (h1:l≤h) (h2:h≤n) :
 DR S w (.list e ty) ((xs.take h).drop l) [sliced ao l h c ty.size]:=by
 refine⟨if c=l then ao else ao.map (·.add (l*ty.size)),h-l,c-l,(es.take (h*ty.size)).drop (l*ty.size),rfl,by simp;omega,by omega,Cat.drop (DR.length ty) _ _ _ (Cat.take (DR.length ty) _ _ _ e4),?_,?_⟩
 rotate_left
 · intro hh
   split at hh
   · omega
   · have:=e6 (by simpa using hh);omega
 intro j u hj
 rw[List.getElem?_drop,List.getElem?_take] at hj
 split at hj
 rotate_left
 · cases hj
 rename_i hlt
 obtain⟨ad,q1,q2,q3⟩:=e5 _ _ hj
 have hcl:¬c=l:=by
  intro e
  have:h=l:=by omega
  rw[this] at hlt
  omega
 rw[if_neg hcl,q1]
 refine⟨ad.add (l*ty.size),rfl,?_,?_⟩
 · rw[show (ad.add (l*ty.size)).block=ad.block by unfold Addr.add;split<;>rfl];exact q2
 · rw[add_add];exact q3
theorem cut_list3 {e:TypeId} {ty:Ty} {xs:List ty.den} {ao:Option Addr} {n:Nat} {es:List Value} (e2:n=xs.length) (e4:Cat (DR S w ty) xs es) (e5:Rd S w ao es) (l h m:Nat) (h1:l≤h) (h2:h≤n) (h3:h≤m) (e6:ao=none→m=0) :
 DR S w (.list e ty) ((xs.take h).drop l) [sliced ao l h m ty.size]:=by
 refine⟨if m=l then ao else ao.map (·.add (l*ty.size)),h-l,m-l,(es.take (h*ty.size)).drop (l*ty.size),rfl,by simp;omega,by omega,Cat.drop (DR.length ty) _ _ _ (Cat.take (DR.length ty) _ _ _ e4),?_,?_⟩
 rotate_left
 · intro hh
   split at hh
   · omega
   · have:=e6 (by simpa using hh);omega
 intro j u hj
 rw[List.getElem?_drop,List.getElem?_take] at hj
 split at hj
 rotate_left
 · cases hj
 rename_i hlt
 obtain⟨ad,q1,q2,q3⟩:=e5 _ _ hj
 have hcl:¬m=l:=by
  intro e
  have:h=l:=by omega
  rw[this] at hlt
  omega
 rw[if_neg hcl,q1]
 refine⟨ad.add (l*ty.size),rfl,?_,?_⟩
 · rw[show (ad.add (l*ty.size)).block=ad.block by unfold Addr.add;split<;>rfl];exact q2
 · rw[add_add];exact q3
theorem bounds_slice {lo hi:Option Operand} {N:Nat} {l h:Int} (hev:∀x,VL S w β H (ev x) [a.eval x]) (hb:bounds (lo.map ev) (hi.map ev) N=some (l,h)) {t:TypeId} (ht:P.underlying t=some (.slice (P.elem t))) (ao:Option Addr) (c:Nat) (hc:N≤c) (h0:0≤l) (h1:l≤h) (h2:h≤(N:Int)) :
 (Instr.slice t (.slice ao N c) (lo.map a.eval) (hi.map a.eval) none).run P w=((sizeOf (P.elem t)).run P w).andThen fun s w=>.ok (sliced ao l.toNat h.toNat c s) w:=by
 cases lo with
 | none=>
  cases hi with
  | none=>
   simp only[Option.map_none,bounds,Option.some.injEq,Prod.mk.injEq] at hb
   obtain⟨rfl,rfl⟩:=hb
   exact run_slice_all w t ao N c ht
  | some y=>
   have hv:=hev y
   simp only[Option.map_none,Option.map_some] at hb
   cases hy:ev y<;>rw[hy] at hb hv<;>simp only[bounds,reduceCtorEq,Option.some.injEq,Prod.mk.injEq] at hb
   obtain⟨rfl,rfl⟩:=hb
   simp only[Option.map_none,Option.map_some,VL.int hv]
   exact run_slice_h w t ao N c ht _ _ h1 (by omega)
 | some x=>
  cases hi with
  | none=>
   have hv:=hev x
   simp only[Option.map_none,Option.map_some] at hb
   cases hx:ev x<;>rw[hx] at hb hv<;>simp only[bounds,reduceCtorEq,Option.some.injEq,Prod.mk.injEq] at hb
   obtain⟨rfl,rfl⟩:=hb
   simp only[Option.map_none,Option.map_some,VL.int hv]
   exact run_slice_l w t ao N c ht _ _ h0 h1
  | some y=>
   have hv:=hev x
   have hv2:=hev y
   simp only[Option.map_some] at hb
   cases hx:ev x<;>rw[hx] at hb hv<;>simp only[bounds,reduceCtorEq] at hb
   cases hy:ev y<;>rw[hy] at hb hv2<;>simp only[bounds,reduceCtorEq,Option.some.injEq,Prod.mk.injEq] at hb
   obtain⟨rfl,rfl⟩:=hb
   simp only[Option.map_some,VL.int hv,VL.int hv2]
   exact run_slice_lh w t ao N c ht _ _ _ _ h0 h1 (by omega)
theorem bounds_array {lo hi:Option Operand} {N:Nat} {l h:Int} (hev:∀x,VL S w β H (ev x) [a.eval x]) (hb:bounds (lo.map ev) (hi.map ev) N=some (l,h)) {t:TypeId} (ht:P.underlying t=some (.array (P.arrayLen t) (P.elem t))) (hN:P.arrayLen t=N) (ad:Addr) (h0:0≤l) (h1:l≤h) (h2:h≤(N:Int)) :
 (Instr.sliceAt t (.pointer (some ad)) (lo.map a.eval) (hi.map a.eval) none).run P w=((sizeOf (P.elem t)).run P w).andThen fun s w=>.ok (slicedAt ad l.toNat h.toNat N s) w:=by
 subst hN
 cases lo with
 | none=>
  cases hi with
  | none=>
   simp only[Option.map_none,bounds,Option.some.injEq,Prod.mk.injEq] at hb
   obtain⟨rfl,rfl⟩:=hb
   exact run_sliceAt_array_all w t ad ht
  | some y=>
   have hv:=hev y
   simp only[Option.map_none,Option.map_some] at hb
   cases hy:ev y<;>rw[hy] at hb hv<;>simp only[bounds,reduceCtorEq,Option.some.injEq,Prod.mk.injEq] at hb
   obtain⟨rfl,rfl⟩:=hb
   simp only[Option.map_none,Option.map_some,VL.int hv]
   exact run_sliceAt_array_h w t ad ht _ _ h1 h2
 | some x=>
  cases hi with
  | none=>
   have hv:=hev x
   simp only[Option.map_none,Option.map_some] at hb
   cases hx:ev x<;>rw[hx] at hb hv<;>simp only[bounds,reduceCtorEq,Option.some.injEq,Prod.mk.injEq] at hb
   obtain⟨rfl,rfl⟩:=hb
   simp only[Option.map_none,Option.map_some,VL.int hv]
   exact run_sliceAt_array_l w t ad ht _ _ h0 h1
  | some y=>
   have hv:=hev x
   have hv2:=hev y
   simp only[Option.map_some] at hb
   cases hx:ev x<;>rw[hx] at hb hv<;>simp only[bounds,reduceCtorEq] at hb
   cases hy:ev y<;>rw[hy] at hb hv2<;>simp only[bounds,reduceCtorEq,Option.some.injEq,Prod.mk.injEq] at hb
   obtain⟨rfl,rfl⟩:=hb
   simp only[Option.map_some,VL.int hv,VL.int hv2]
   exact run_sliceAt_array_lh w t ad ht _ _ _ _ h0 h1 h2
theorem s_slice3 {t:TypeId} {x lo hi mx:Operand} (ho:o.op=.slice t x (some lo) (some hi) (some mx)) (c:Cx P T M S0 w0 S β H w a ev nid r) (hs:semOp T env ev H nid o=some r):Goes P M S0 w0 S β H w o a r:=by
 simp only[semOp,ho,semSlice3] at hs
 have hx:=c.hev x
 split at hs
 rotate_left
 · cases hs
 rename_i e e' ty xs k1 l k2 h k3 m hd ex elo ehi emx
 rw[ex] at hx
 obtain⟨u,e1,hl⟩:=hx
 cases e1
 obtain⟨ao,n,cc,es,q1,q2,q3,q4,q5,q6⟩:=hl
 simp only[List.cons.injEq,and_true] at q1
 split at hs
 rotate_left
 · cases hs
 rename_i hk
 have hel:P.elem t=e:=by simp[Program.elem,run_slice_desc c.hT hd]
 have ht:P.underlying t=some (.slice (P.elem t)):=by rw[hel];exact run_slice_desc c.hT hd
 have hsz:=run_sizeOf c.hT (known_d hk.1)
 simp only[okIf,Option.some.injEq] at hs
 have g0:=c.hgs (0≤l) (by rw[←hs];simp)
 have g1:=c.hgs (l≤h) (by rw[←hs];simp)
 have g2:=c.hgs (h≤m) (by rw[←hs];simp)
 have g3:=c.hgs (m≤(xs.length:Int)) (by rw[←hs];simp)
 have vlo:=VL.int (by rw[←elo];exact c.hev lo)
 have vhi:=VL.int (by rw[←ehi];exact c.hev hi)
 have vmx:=VL.int (by rw[←emx];exact c.hev mx)
 subst hs
 refine goes_same (u:=sliced ao l.toNat h.toNat m.toNat ty.size) c rfl (s:=Instr.sliceAt t (a.eval x) (some (a.eval lo)) (some (a.eval hi)) (some (a.eval mx))) (by simp only[execOp,ho];rfl) ?_ ⟨_,rfl,cut_list3 (e:=e') q2 q4 q5 l.toNat h.toNat m.toNat (by omega) (by omega) (by omega) (fun h=>by have:=q6 h;omega)⟩
 rw[run_sliceAt_slice w t _ _ _ _ ht,q1,vlo,vhi,vmx,run_slice_lhm w t ao n cc ht _ _ _ _ _ _ g0 g1 g2 (by omega),hel,hsz,Result.andThen_ok,hk.2]
theorem s_cut {t:TypeId} {x:Operand} {lo hi:Option Operand} (ho:o.op=.slice t x lo hi none) (c:Cx P T M S0 w0 S β H w a ev nid r) (hs:semCut T H nid (T.at_ t).d (ev x) (lo.map ev) (hi.map ev)=some r):Goes P M S0 w0 S β H w o a r:=by
 have hx:=c.hev x
 unfold semCut at hs
 split at hs
 rotate_left
 · cases hs
 rename_i e k kh h hd ex elo ehi
 split at hs
 rotate_left
 · cases hs
 rename_i e' ty xs hk
 split at hs
 rotate_left
 · cases hs
 rename_i hc
 simp only[Option.some.injEq] at hs
 subst hs
 have g1:=c.hgs (0≤h) (by simp)
 have g2:=c.hgs (h≤(xs.length:Int)) (by simp)
 rw[ex] at hx
 obtain⟨u,e1,hl⟩:=hx
 simp only[List.cons.injEq,and_true] at e1
 simp only[leaf,hk] at hl
 have hel:P.elem t=e:=by simp[Program.elem,run_slice_desc c.hT hd]
 have ht:P.underlying t=some (.slice (P.elem t)):=by rw[hel];exact run_slice_desc c.hT hd
 have hsz:=run_sizeOf c.hT (known_d hc.1)
 have hob:=c.rel.ob k
 rw[hk] at hob
 have hn:=c.fresh (by simp)
 have hkl:(H k).live=true:=by rw[hk];rfl
 have hne:nid≠k:=by intro q;rw[←q,hn] at hkl;cases hkl
 have hb:bounds (lo.map ev) (hi.map ev) xs.length=some (0,h):=by rw[elo,ehi];rfl
 have hrun:(Instr.sliceAt t (a.eval x) (lo.map a.eval) (hi.map a.eval) none).run P w=.ok (rowV (β k) h.toNat) w:=by
  rcases hob with ⟨e2,e3⟩ | ⟨g,cur,e2,e3,e4,_⟩
  · subst e3
    have h0:h=0:=by simp at g2;omega
    subst h0
    rw[run_sliceAt_slice w t _ _ _ _ ht,e1,hl]
    have:rowV (β k) ([]:List ty.den).length=.slice none 0 0:=by unfold rowV;rw[e2]
    have hbs:=bounds_slice c.hev hb ht none 0 (Nat.le_refl _) (Int.le_refl _) g1 g2
    simp only[List.length_nil] at hbs
    rw[this,hbs,hel,hsz,Result.andThen_ok]
    simp[sliced,rowV,e2]
  · rw[run_sliceAt_slice w t _ _ _ _ ht,e1,hl,rowV_some e2,bounds_slice c.hev hb ht _ _ e4 (Int.le_refl _) g1 g2,hel,hsz,Result.andThen_ok,rowV_some e2]
    simp[sliced,Addr.add]
 have hHk:updH H [(k,.dead),(nid,.row e' ty (xs.take h.toNat))] k=.dead:=by simp[updH,List.lookup]
 have hHn:updH H [(k,.dead),(nid,.row e' ty (xs.take h.toNat))] nid=.row e' ty (xs.take h.toNat):=by
  have h1:(nid==k)=false:=by simpa using hne
  simp[updH,List.lookup,h1]
 have hHo:∀q,q≠k→q≠nid→updH H [(k,.dead),(nid,.row e' ty (xs.take h.toNat))] q=H q:=by
  intro q h1 h2
  have e1:(q==k)=false:=by simpa using h1
  have e2:(q==nid)=false:=by simpa using h2
  simp[updH,List.lookup,e1,e2]
 have alive:∀q,(updH H [(k,.dead),(nid,.row e' ty (xs.take h.toNat))] q).live=true→q≠nid→q≠k∧(H q).live=true∧updH H [(k,.dead),(nid,.row e' ty (xs.take h.toNat))] q=H q:=by
  intro q hq h2
  have h1:q≠k:=fun e=>by rw[e,hHk] at hq;cases hq
  rw[hHo q h1 h2] at hq
  exact⟨h1,hq,hHo q h1 h2⟩
 have hlen:(xs.take h.toNat).length=h.toNat:=by rw[List.length_take];omega
 intro next Q hnx
 obtain⟨z1,z2⟩:=Rel.step c.rel (β':=setC β nid (β k)) (H':=updH H [(k,.dead),(nid,.row e' ty (xs.take h.toNat))]) (w':=w) (fun _=>False) rfl rfl rfl (Nat.le_refl _) (fun b hb=>hb.elim) (fun _ _ _=>rfl)
  (fun q=>by
   by_cases h2:q=nid
   · subst h2;rw[hn];trivial
   · rw[setC_other _ _ _ _ h2]
     by_cases h1:q=k
     · subst h1;rw[hHk,hk];exact .inl rfl
     · rw[hHo q h1 h2];exact ObExt.refl _ _)
  (fun q b hq hb=>by
   by_cases h2:q=nid
   · subst h2;rw[setC_one] at hb;exact .inl ⟨k,hkl,hb⟩
   · rw[setC_other _ _ _ _ h2] at hb;exact .inl ⟨q,(alive q hq h2).2.1,hb⟩)
  (fun q q' b hq hq' hb hb'=>by
   by_cases h2:q=nid
   · by_cases h2':q'=nid
     · rw[h2,h2']
     · rw[setC_other _ _ _ _ h2'] at hb'
       rw[h2,setC_one] at hb
       exact ((alive q' hq' h2').1 (c.rel.dis q' k b (alive q' hq' h2').2.1 hkl hb' hb)).elim
   · rw[setC_other _ _ _ _ h2] at hb
     by_cases h2':q'=nid
     · rw[h2',setC_one] at hb'
       exact ((alive q hq h2).1 (c.rel.dis q k b (alive q hq h2).2.1 hkl hb hb')).elim
     · rw[setC_other _ _ _ _ h2'] at hb'
       exact c.rel.dis q q' b (alive q hq h2).2.1 (alive q' hq' h2').2.1 hb hb')
  (fun hxt q hq=>by
   by_cases h2:q=nid
   · subst h2
     right
     rw[setC_one,hHn]
     rcases hob with ⟨e2,e3⟩ | ⟨g,cur,e2,e3,e4,e5,e6,e7⟩
     · exact .inl ⟨e2,by rw[e3];simp⟩
     · refine .inr ⟨g,cur,e2,e3,by rw[hlen];omega,e5,e6,?_⟩
       rw[hlen]
       have h3:=Cat.take (DR.length ty) _ _ h.toNat e7
       rw[List.take_take,show min (h.toNat*ty.size) (xs.length*ty.size)=h.toNat*ty.size from Nat.min_eq_left (Nat.mul_le_mul_right _ (by omega))] at h3
       exact Cat.dr_mono hxt.hS h3
   · left
     exact⟨(alive q hq h2).2.2,setC_other _ _ _ _ h2,fun _ _ h=>h⟩)
 refine wp_val (s:=Instr.sliceAt t (a.eval x) (lo.map a.eval) (hi.map a.eval) none) (by simp only[execOp,ho];rfl) hrun (hnx _ _ _ _ z1 ?_ z2)
 refine⟨_,rfl,?_⟩
 simp only[leaf,hHn,setC_one]
 rw[hlen]
theorem s_slice {t:TypeId} {x:Operand} {lo hi:Option Operand} (ho:o.op=.slice t x lo hi none) (c:Cx P T M S0 w0 S β H w a ev nid r) (hs:semOp T env ev H nid o=some r):Goes P M S0 w0 S β H w o a r:=by
 simp only[semOp,ho] at hs
 cases hcut:env.eats.contains (o.dst.getD 0)
 rotate_left
 · rw[hcut] at hs
   exact s_cut ho c hs
 rw[hcut] at hs
 simp only[cond_false,semSlice] at hs
 have hx:=c.hev x
 have key:∀(u:Value) (v:AV) (gs:List Prop),(Instr.sliceAt t (a.eval x) (lo.map a.eval) (hi.map a.eval) none).run P w=.ok u w→VL S w β H v [u]→r=⟨gs,v,[]⟩→Goes P M S0 w0 S β H w o a r:=by
  intro u v gs hr hv e
  subst e
  exact goes_same (u:=u) c rfl (s:=Instr.sliceAt t (a.eval x) (lo.map a.eval) (hi.map a.eval) none) (by simp only[execOp,ho];rfl) hr hv
 have desc:∀ {e},(T.at_ t).d=.slice e→P.elem t=e∧P.underlying t=some (.slice (P.elem t)):=by
  intro e hd
  have hel:P.elem t=e:=by simp[Program.elem,run_slice_desc c.hT hd]
  exact⟨hel,by rw[hel];exact run_slice_desc c.hT hd⟩
 split at hs
 · rename_i e e' ty xs hd ex
   rw[ex] at hx
   obtain⟨u,e1,hl⟩:=hx
   cases e1
   obtain⟨ao,n,cc,es,q1,q2,q3,q4,q5,q6⟩:=hl
   simp only[List.cons.injEq,and_true] at q1
   split at hs
   rotate_left
   · cases hs
   rename_i hk
   obtain⟨hel,ht⟩:=desc hd
   have hsz:=run_sizeOf c.hT (known_d hk.1)
   have fin:∀(l h:Int) (ys:List ty.den) (gs:List Prop),bounds (lo.map ev) (hi.map ev) n=some (l,h)→0≤l→l≤h→h≤(n:Int)→ys=(xs.take h.toNat).drop l.toNat→r=⟨gs,.list e' ty ys,[]⟩→Goes P M S0 w0 S β H w o a r:=by
    intro l h ys gs hb h0 h1 h2 hy hr
    refine key (sliced ao l.toNat h.toNat cc ty.size) (.list e' ty ys) gs ?_ ⟨_,rfl,by rw[hy];exact cut_list (e:=e') q2 q3 q4 q5 q6 l.toNat h.toNat (by omega) (by omega)⟩ hr
    rw[run_sliceAt_slice w t _ _ _ _ ht,q1,bounds_slice c.hev hb ht ao cc q3 h0 h1 h2,hel,hsz,Result.andThen_ok,hk.2]
   split at hs
   · rename_i kh h elo ehi
     simp only[okIf,Option.some.injEq] at hs
     have g0:=c.hgs (0≤h) (by rw[←hs];simp)
     have g1:=c.hgs (h≤(xs.length:Int)) (by rw[←hs];simp)
     exact fin 0 h _ _ (by rw[elo,ehi];rfl) (by omega) g0 (by omega) rfl hs.symm
   · rename_i kl l elo ehi
     simp only[okIf,Option.some.injEq] at hs
     have g0:=c.hgs (0≤l) (by rw[←hs];simp)
     have g1:=c.hgs (l≤(xs.length:Int)) (by rw[←hs];simp)
     exact fin l n _ _ (by rw[elo,ehi];rfl) g0 (by omega) (by omega) (by rw[Int.toNat_natCast,q2,List.take_length]) hs.symm
   · rename_i kl l kh h elo ehi
     simp only[okIf,Option.some.injEq] at hs
     have g0:=c.hgs (0≤l) (by rw[←hs];simp)
     have g1:=c.hgs (l≤h) (by rw[←hs];simp)
     have g2:=c.hgs (h≤(xs.length:Int)) (by rw[←hs];simp)
     exact fin l h _ _ (by rw[elo,ehi];rfl) g0 g1 (by omega) rfl hs.symm
   · rename_i elo ehi
     simp only[ok,Option.some.injEq] at hs
     exact fin 0 n _ _ (by rw[elo,ehi];rfl) (by omega) (by omega) (by omega) (by rw[Int.toNat_natCast,q2,List.take_length];rfl) hs.symm
   · cases hs
 · rename_i e k hd ex
   rw[ex] at hx
   obtain⟨u,e1,hl⟩:=hx
   simp only[List.cons.injEq,and_true] at e1
   split at hs
   rotate_left
   · cases hs
   rename_i e' ty xs hk
   split at hs
   rotate_left
   · cases hs
   rename_i hc
   split at hs
   rotate_left
   · cases hs
   rename_i l h hb
   simp only[okIf,Option.some.injEq] at hs
   have g0:=c.hgs (0≤l) (by rw[←hs];simp)
   have g1:=c.hgs (l≤h) (by rw[←hs];simp)
   have g2:=c.hgs (h≤(xs.length:Int)) (by rw[←hs];simp)
   obtain⟨hel,ht⟩:=desc hd
   have hsz:=run_sizeOf c.hT (known_d hc.1)
   simp only[leaf,hk] at hl
   have hob:=c.rel.ob k
   rw[hk] at hob
   obtain⟨ao,cc,v1,v2,v3,v4⟩:∃ao cc,u=.slice ao xs.length cc∧xs.length≤cc∧(0<xs.length→∃g,(β k).g=some g∧ao=some ⟨g,0,none⟩)∧(ao=none→cc=0):=by
    rcases hob with ⟨e2,e3⟩ | ⟨g,cur,e2,e3,e4,_⟩
    · subst e3
      exact⟨none,0,by rw[hl];unfold rowV;rw[e2];rfl,Nat.le_refl _,fun h=>by simp at h,fun _=>rfl⟩
    · exact⟨some ⟨g,0,none⟩,(β k).cap,by rw[hl,rowV_some e2],e4,fun _=>⟨g,e2,rfl⟩,fun h=>by cases h⟩
   refine key (sliced ao l.toNat h.toNat cc ty.size) (.view k l.toNat (h-l).toNat e' ty) _ ?_ ⟨_,rfl,?_⟩ hs.symm
   · rw[run_sliceAt_slice w t _ _ _ _ ht,e1,v1,bounds_slice c.hev hb ht ao cc v2 g0 g1 g2,hel,hsz,Result.andThen_ok,hc.2]
   · simp only[leaf,hk]
     have hnl:(h-l).toNat=h.toNat-l.toNat:=by omega
     refine⟨if cc=l.toNat then ao else ao.map (·.add (l.toNat*ty.size)),cc-l.toNat,by rw[hnl];rfl,by omega,by omega,?_,?_⟩
     · intro hn
       obtain⟨g,r1,r2⟩:=v3 (by omega)
       rw[if_neg (show ¬cc=l.toNat by omega),r2]
       exact⟨g,r1,by simp[add_lit]⟩
     · intro hh
       split at hh
       · omega
       · have:=v4 (by simpa using hh);omega
 · rename_i e k lo' n e' ty hd ex
   rw[ex] at hx
   obtain⟨u,e1,hl⟩:=hx
   simp only[List.cons.injEq,and_true] at e1
   obtain⟨hel,ht⟩:=desc hd
   split at hs
   · rename_i e2 ty' xs hk
     split at hs
     rotate_left
     · cases hs
     rename_i hc
     obtain⟨hc1,hc2,rfl⟩:=hc
     split at hs
     rotate_left
     · cases hs
     rename_i l h hb
     simp only[okIf,Option.some.injEq] at hs
     have g0:=c.hgs (0≤l) (by rw[←hs];simp)
     have g1:=c.hgs (l≤h) (by rw[←hs];simp)
     have g2:=c.hgs (h≤(n:Int)) (by rw[←hs];simp)
     have hsz:=run_sizeOf c.hT (known_d hc1)
     simp only[leaf,hk] at hl
     obtain⟨ao,cc,v1,v2,v3,v4,v5⟩:=hl
     refine key (sliced ao l.toNat h.toNat cc ty'.size) (.view k (lo'+l.toNat) (h-l).toNat e' ty') _ ?_ ⟨_,rfl,?_⟩ hs.symm
     · rw[run_sliceAt_slice w t _ _ _ _ ht,e1,v1,bounds_slice c.hev hb ht ao cc v2 g0 g1 g2,hel,hsz,Result.andThen_ok,hc2]
     · simp only[leaf,hk]
       have hnl:(h-l).toNat=h.toNat-l.toNat:=by omega
       refine⟨if cc=l.toNat then ao else ao.map (·.add (l.toNat*ty'.size)),cc-l.toNat,by rw[hnl];rfl,by omega,by omega,?_,?_⟩
       · intro hn
         obtain⟨g,r1,r2⟩:=v4 (by omega)
         rw[if_neg (show ¬cc=l.toNat by omega),r2]
         exact⟨g,r1,by simp[add_lit,Nat.add_mul]⟩
       · intro hh
         split at hh
         · omega
         · have:=v5 (by simpa using hh);omega
   · rename_i e2 cs hk
     split at hs
     rotate_left
     · cases hs
     rename_i hc
     split at hs
     rotate_left
     · cases hs
     rename_i l h hb
     simp only[okIf,Option.some.injEq] at hs
     have g0:=c.hgs (0≤l) (by rw[←hs];simp)
     have g1:=c.hgs (l≤h) (by rw[←hs];simp)
     have g2:=c.hgs (h≤(n:Int)) (by rw[←hs];simp)
     have hsz:=run_sizeOf c.hT (known_d hc.1)
     simp only[leaf,hk] at hl
     obtain⟨ao,cc,v1,v2,v4,v5,v6⟩:=hl
     have g3:=c.hgs ((n:Int)≤h) (by rw[←hs];simp)
     refine key (sliced ao l.toNat h.toNat cc ty.size) (.view k (lo'+l.toNat*ty.size) (h-l).toNat e' ty) _ ?_ ⟨_,rfl,?_⟩ hs.symm
     · rw[run_sliceAt_slice w t _ _ _ _ ht,e1,v1,bounds_slice c.hev hb ht ao cc v2 g0 g1 g2,hel,hsz,Result.andThen_ok,hc.2]
     · simp only[leaf,hk]
       have hnl:(h-l).toNat=h.toNat-l.toNat:=by omega
       refine⟨if cc=l.toNat then ao else ao.map (·.add (l.toNat*ty.size)),cc-l.toNat,by rw[hnl];rfl,by omega,?_,?_,by omega⟩
       · intro hn
         obtain⟨g,r1,r2⟩:=v4 (by omega)
         rw[if_neg (show ¬cc=l.toNat by omega),r2]
         exact⟨g,r1,by simp[add_lit]⟩
       · intro hh
         split at hh
         · omega
         · have:=v5 (by simpa using hh);omega
   · cases hs
 · rename_i m e k off hd ex
   rw[ex] at hx
   obtain⟨u,e1,hl⟩:=hx
   simp only[List.cons.injEq,and_true] at e1
   split at hs
   rotate_left
   · cases hs
   rename_i e2 cs ty hk hte
   split at hs
   rotate_left
   · cases hs
   rename_i hc
   split at hs
   rotate_left
   · cases hs
   rename_i l h hb
   simp only[okIf,Option.some.injEq] at hs
   have g0:=c.hgs (0≤l) (by rw[←hs];simp)
   have g1:=c.hgs (l≤h) (by rw[←hs];simp)
   have g2:=c.hgs (h≤(m:Int)) (by rw[←hs];simp)
   have g3:=c.hgs ((m:Int)≤h) (by rw[←hs];simp)
   have hsz:=run_sizeOf c.hT (known_d hc.1)
   have hds:=(c.hT t (by rw[hd];simp)).desc
   unfold DescOk at hds
   rw[hd] at hds
   have hel:P.elem t=e:=by simp[Program.elem,hds.1]
   have hln:P.arrayLen t=m:=by simp[Program.arrayLen,hds.1]
   have ht:P.underlying t=some (.array (P.arrayLen t) (P.elem t)):=by rw[hel,hln];exact hds.1
   simp only[leaf,hk] at hl
   obtain⟨g,hg,hv⟩:=hl
   refine key (slicedAt ⟨g,off,none⟩ l.toNat h.toNat m ty.size) (.view k (off+l.toNat*ty.size) (h-l).toNat e ty) _ ?_ ⟨_,rfl,?_⟩ hs.symm
   · rw[e1,hv,bounds_array c.hev hb ht hln _ g0 g1 g2,hel,hsz,Result.andThen_ok,hc.2]
   · simp only[leaf,hk]
     have hnl:(h-l).toNat=h.toNat-l.toNat:=by omega
     refine⟨some (if m=l.toNat then ⟨g,off,none⟩ else (⟨g,off,none⟩:Addr).add (l.toNat*ty.size)),m-l.toNat,by rw[hnl];rfl,by omega,?_,fun hh=>(by cases hh),by omega⟩
     intro hn
     rw[if_neg (show ¬m=l.toNat by omega)]
     exact⟨g,hg,by rw[add_lit]⟩
 · cases hs
end
end Go.Proofs.YtkpjcmiijlpcaaaDoor.Aw
