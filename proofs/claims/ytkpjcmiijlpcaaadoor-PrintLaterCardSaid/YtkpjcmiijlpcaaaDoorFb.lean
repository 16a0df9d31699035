/- The contracts of strings. -/
import Derived.Test.YtkpjcmiijlpcaaaDoorSb
import Derived.Shelf.SlIterI.Sorted
import Derived.Shelf.SortM.Plain
import Derived.Shelf.SortM.SortNone
import Derived.Test.YtkpjcmiijlpcaaaDoorProg
import Derived.Test.YtkpjcmiijlpcaaaDoorAwAJ
import Derived.KernelRfl
set_option linter.unusedVariables false
set_option linter.unusedSimpArgs false
namespace Go.Proofs.YtkpjcmiijlpcaaaDoor.W
open Go Go.Proofs Go.RowKit Go.Proofs.YtkpjcmiijlpcaaaDoor.Aw
noncomputable section
abbrev bld (xs:List Int):List Ob:=[.cells 58 [.nptr 0,.row 1],.row 5 (.int .u8) xs]
def con33:List AV→List Ob→Option Tells2
 | [.ptr 0 0],[.cells 58 [.nptr 0,.row 1],.row 5 (.int .u8) xs]=>some ⟨[],.tuple .nl,[none,none],[]⟩
 | _,_=>none
def con21:List AV→List Ob→Option Tells2
 | [.ptr 0 0],[.cells 58 [.nptr 0,.row 1],.row 5 (.int .u8) xs]=>some ⟨[∀x∈xs,0≤x∧x<256],.str (toBytes xs),[none,some .dead],[]⟩
 | _,_=>none
section
variable {M S0:Nat→Prop} {w0:World} {S:Nat→Prop} {β:Nat→Cr} {w w':World} {xs:List Int}
theorem bld_open (h:Rel M S0 w0 S β (newsH (bld xs)) w):∃g p v,(β 0).g=some g∧w.heap[g]? = some (.cells #[p,v] 58 (0,0))∧(p=.pointer none∨p=.pointer (some ⟨g,0,none⟩))∧v=rowV (β 1) xs.length:=by
 have h0:=h.ob 0
 obtain⟨g,vs,h1,h2,p,r,e1,⟨u,e2,g',h3,h4⟩,v,r',e3,⟨u',e4,h5⟩,e5⟩:=h0
 rw[h1] at h3
 cases h3
 cases e2
 cases e4
 have e5:r'=[]:=e5
 subst e5
 rw[e1,e3] at h2
 exact⟨g,p,v,h1,h2,h4,h5⟩
theorem bld_dead (h:Rel M S0 w0 S β (newsH (bld xs)) w) (e1:w'.os=w.os) (e2:w'.tape=w.tape) (e3:w'.output=w.output) (hz:w.heap.size≤w'.heap.size) (hb:∀b,b<w.heap.size→(β 1).g≠some b→w'.heap[b]? = w.heap[b]?) :
 Rel M S0 w0 S β (newsH [.cells 58 [.nptr 0,.row 1],.dead]) w'∧Ext S w β (newsH (bld xs)) S w' β (newsH [.cells 58 [.nptr 0,.row 1],.dead]):=by
 have hl:∀k,(newsH [Ob.cells 58 [.nptr 0,.row 1],.dead] k).live=true→k=0:=fun k hk=>by
  match k,hk with
  | 0,_=>rfl
  | 1,hk=>cases hk
  | k+2,hk=>cases hk
 refine h.step (fun b=>(β 1).g=some b) e1 e2 e3 hz (fun b hb=>⟨1,rfl,.inl hb⟩) hb (fun k => ?_) (fun k b hk hg=>.inl ⟨0,rfl,by rw[hl k hk] at hg;exact hg⟩) (fun k k' b hk hk' _ _=>by rw[hl k hk,hl k' hk']) (fun hx k hk => ?_) (Nat.le_refl _)
 · match k with
   | 0=>exact .inr ⟨rfl,_,rfl⟩
   | 1=>exact .inl rfl
   | k+2=>trivial
 · rw[hl k hk]
   refine .inr (ObR.ext hx _ _ (fun g hg => ?_) (h.ob 0))
   exact hb g (h.own 0 g rfl hg).2.1 fun e=>by have:=h.dis 0 1 g rfl rfl hg (.inl e);cases this
theorem bld_same (h:Rel M S0 w0 S β (newsH (bld xs)) w) {g:Nat} {v:Value} (hg:(β 0).g=some g) (hh:w.heap[g]? = some (.cells #[.pointer none,v] 58 (0,0))) (hv:v=rowV (β 1) xs.length):Rel M S0 w0 S β (newsH (bld xs)) (w.setCell ⟨g,0,none⟩ (.pointer (some ⟨g,0,none⟩))):=by
 have hne:∀b,b≠g→(w.setCell ⟨g,0,none⟩ (.pointer (some ⟨g,0,none⟩))).heap[b]? = w.heap[b]? := fun b hb=>Below.heap_setCell _ _ _ _ hb
 have hgl:g<w.heap.size:=(Array.getElem?_eq_some_iff.1 hh).1
 have hnew:(w.setCell ⟨g,0,none⟩ (.pointer (some ⟨g,0,none⟩))).heap[g]? = some (.cells #[.pointer (some ⟨g,0,none⟩),v] 58 (0,0)):=by
  simp[World.setCell,Array.getElem?_modify,hh]
 have hO:∀k,ObExt (β k) (newsH (bld xs) k) (β k) (newsH (bld xs) k):=fun k=>ObExt.refl _ _
 refine (Rel.step (w':=w.setCell ⟨g,0,none⟩ (.pointer (some ⟨g,0,none⟩))) h (fun b=>b=g) rfl rfl rfl (by simp[World.setCell]) (fun b hb=>⟨0,rfl,.inl (by rw[hb];exact hg)⟩) (fun b _ hb=>hne b hb) hO (fun k b hk hb=>.inl ⟨k,hk,hb⟩) (fun k k' b hk hk' hb hb'=>h.dis k k' b hk hk' hb hb') (fun hx k hk => ?_) (Nat.le_refl _)).1
 match k,hk with
 | 0,_=>exact .inr ⟨g,[_,v],hg,hnew,_,[v],rfl,⟨_,rfl,g,hg,.inr rfl⟩,v,[],rfl,⟨_,rfl,hv⟩,rfl⟩
 | 1,hk=>exact .inl ⟨rfl,rfl,fun b hb e=>by subst e;have:=h.dis 0 1 b rfl rfl (.inl hg) hb;cases this⟩
 | k+2,hk=>cases hk
end
theorem ok33:ConOk2 Tryd.prog (33,con33):=by
 intro args obs t h hp
 change con33 args obs=some t at h
 unfold con33 at h
 split at h
 rotate_left
 · cases h
 rename_i xs
 change List Int at xs
 cases h
 refine⟨⟨Tryd.f33,Tryd.func33,by kernel_rfl,by kernel_rfl⟩,fun S β w vs hrel hvs => ?_⟩
 obtain⟨g,p,v,h1,h2,h3,h4⟩:=bld_open hrel
 obtain⟨v0,r,e1,⟨u0,e2,hv0⟩,e3⟩:=hvs
 cases e2
 have e3:r=[]:=e3
 obtain⟨g',h5,h6⟩:=hv0
 rw[h1] at h5
 cases h5
 subst e3 e1 h6
 rcases h3 with rfl | rfl
 · refine (copy_fresh g w (by simp[World.cell?,h2]) (by simp[World.shape?,h2]) (by simp[World.frozen?,h2])).mono ?_
   rintro e w' ⟨rfl,rfl⟩
   exact⟨_,rfl,S,β,bld_same hrel h1 h2 h4,⟨[],rfl,rfl⟩,fun i _=>ObExt.refl _ _⟩
 · refine (copy_used g w (by simp[World.cell?,h2])).mono ?_
   rintro e w' ⟨rfl,rfl⟩
   exact⟨_,rfl,S,β,hrel,⟨[],rfl,rfl⟩,fun i _=>ObExt.refl _ _⟩
theorem toBytes_mk (xs:List Int):toBytes xs=⟨(xs.map fun n=>UInt8.ofNat n.toNat).toArray⟩:=by
 rw[toBytes_eq]
 have:∀(xs:List Int) (r:ByteArray),xs.foldl (fun r n=>r.push (UInt8.ofNat n.toNat)) r=⟨r.data++(xs.map fun n=>UInt8.ofNat n.toNat).toArray⟩:=by
  intro xs
  induction xs with
  | nil=>intro r;simp
  | cons x xs ih=>intro r;rw[List.foldl_cons,ih];simp[ByteArray.push]
 rw[this]
 show (⟨#[]++_⟩:ByteArray)=_
 rw[Array.empty_append]
theorem ok21:ConOk2 Tryd.prog (21,con21):=by
 intro args obs t h hp
 change con21 args obs=some t at h
 unfold con21 at h
 split at h
 rotate_left
 · cases h
 rename_i xs
 change List Int at xs
 cases h
 have hx:=hp (∀x∈xs,0≤x∧x<256) (by simp)
 refine⟨⟨Tryd.f21,Tryd.func21,by kernel_rfl,by kernel_rfl⟩,fun S β w vs hrel hvs => ?_⟩
 obtain⟨g,p,v,h1,h2,h3,h4⟩:=bld_open hrel
 obtain⟨v0,r,e1,⟨u0,e2,hv0⟩,e3⟩:=hvs
 cases e2
 have e3:r=[]:=e3
 obtain⟨g',h5,h6⟩:=hv0
 rw[h1] at h5
 cases h5
 subst e3 e1 h6
 have fin:∀(w':World),w'.os=w.os→w'.tape=w.tape→w'.output=w.output→w.heap.size≤w'.heap.size→(∀b,b<w.heap.size→(β 1).g≠some b→w'.heap[b]? = w.heap[b]?)→∃u,Ending.returned (.string (toBytes xs))=endOf none u∧∃S' β',Rel (Mof β (bld xs)) S w S' β' (newsH [.cells 58 [.nptr 0,.row 1],.dead]) w'∧VL S' w' β' (newsH [.cells 58 [.nptr 0,.row 1],.dead]) (.str (toBytes xs)) [u]∧∀i,i<2→ObExt (β i) (newsH (bld xs) i) (β' i) (newsH [.cells 58 [.nptr 0,.row 1],.dead] i):=by
  intro w' q1 q2 q3 q4 q5
  obtain⟨hr,hE⟩:=bld_dead hrel q1 q2 q3 q4 q5
  exact⟨_,rfl,S,β,hr,⟨_,rfl,rfl⟩,fun i _=>hE.hO i⟩
 have hob:=hrel.ob 1
 have hemp:xs=[]→toBytes xs=⟨#[]⟩:=fun e=>by rw[toBytes_mk,e];rfl
 rcases hob with ⟨q1,q2⟩ | ⟨g2,cur,q1,q2,q3,q4,q5,q6⟩
 · have q2:xs=[]:=q2
   have hv:v=.slice none 0 0:=by rw[h4];unfold rowV;rw[q1]
   subst hv
   refine (str_nil g p w h2).mono ?_
   rintro e w' ⟨rfl,rfl⟩
   rw[←hemp q2]
   exact fin _ rfl rfl rfl (Nat.le_refl _) (fun _ _ _=>rfl)
 · have q3:xs.length≤(β 1).cap:=q3
   have q5:cur.size=(β 1).cap*1:=q5
   have q6:Cat (DR S w (.int .u8)) xs (cur.toList.take (xs.length*1)):=q6
   have hv:v=.slice (some ⟨g2,0,none⟩) xs.length (β 1).cap:=by rw[h4];unfold rowV;rw[q1]
   subst hv
   by_cases hxe:xs=[]
   · have hemp:=hemp hxe
     subst hxe
     by_cases hc:(β 1).cap=0
     · rw[hc] at h2
       refine (str_bare g g2 p cur w h2 q2).mono ?_
       rintro e w' ⟨rfl,rfl⟩
       rw[←hemp]
       exact fin _ rfl rfl rfl (by simp) (fun b hb _=>heap_alloc_lt w _ b hb)
     · refine (str_room g g2 _ p w hc h2).mono ?_
       rintro e w' ⟨rfl,rfl⟩
       rw[←hemp]
       exact fin _ rfl rfl rfl (Nat.le_refl _) (fun _ _ _=>rfl)
   · have hcat:∀(xs:List Int) (cs:List Value),Cat (DR S w (.int .u8)) xs cs→cs=xs.map (Value.int .u8):=by
      intro xs
      induction xs with
      | nil=>intro cs h;exact h
      | cons y ys ih=>rintro cs ⟨c1,c2,e1,e2,e3⟩;have e2:c1=[.int .u8 y]:=e2;rw[e1,e2,ih _ e3];rfl
     have q7:=hcat _ _ q6
     obtain⟨l,hl⟩:∃l:List UInt8,l=xs.map fun n=>UInt8.ofNat n.toNat:=⟨_,rfl⟩
     have hll:l.length=xs.length:=by rw[hl,List.length_map]
     rw[←hll] at h2 q3
     refine (str_some g g2 (β 1).cap p cur l w (by rw[hl];simpa using hxe) h2 q2 q3 q4 (by omega) (fun j x hj => ?_)).mono ?_
     · have hjl:j<xs.length:=by rw[←hll];exact (List.getElem?_eq_some_iff.1 hj).1
       have h7:(cur.toList.take (xs.length*1))[j]? = (xs.map (Value.int .u8))[j]? := by rw[q7]
       rw[List.getElem?_take_of_lt (by omega),Array.getElem?_toList,List.getElem?_map,List.getElem?_eq_getElem hjl] at h7
       rw[h7]
       rw[hl,List.getElem?_map,List.getElem?_eq_getElem hjl] at hj
       simp only[Option.map_some,Option.some.injEq] at hj ⊢
       have hb:=hx _ (List.getElem_mem hjl)
       rw[←hj]
       congr 1
       rw[UInt8.toNat_ofNat']
       omega
     · rintro e w' ⟨rfl,rfl⟩
       have hs:(⟨l.toArray⟩:ByteArray)=toBytes xs:=by rw[toBytes_mk,hl]
       rw[hs]
       have hf:∀(W:World) (a:Addr) (n:Nat),(W.freeze a n).os=W.os∧(W.freeze a n).tape=W.tape∧(W.freeze a n).output=W.output∧(W.freeze a n).heap.size=W.heap.size∧∀b,b≠a.block→(W.freeze a n).heap[b]? = W.heap[b]? := by
        intro W a n
        unfold World.freeze
        split
        · exact⟨rfl,rfl,rfl,rfl,fun _ _=>rfl⟩
        · refine⟨rfl,rfl,rfl,by simp,fun b hb => ?_⟩
          simp[Array.getElem?_modify,Ne.symm hb]
       obtain⟨f1,f2,f3,f4,f5⟩:=hf w.drew ⟨g2,0,none⟩ l.length
       exact fin _ f1 f2 f3 (by rw[f4];exact Nat.le_refl _) (fun b _ hb=>f5 b fun e=>hb (by rw[q1];exact congrArg some e.symm))
end
end Go.Proofs.YtkpjcmiijlpcaaaDoor.W
set_option linter.unusedVariables false
set_option linter.unusedSimpArgs false
namespace Go.Proofs
open Go.Shelf
def Tryd.keysA_ren:Go.Shelf.Ren:=⟨fun | 7=>29 | 10=>46 | n=>n,fun | 23=>75 | 26=>3 | 3=>77 | 28=>80 | 0=>0 | 27=>79 | 33=>87 | 4=>4 | n=>n,fun | n=>n⟩
theorem Tryd.keysA:Go.Proofs.SlLaysZI.n7 Tryd.prog Tryd.keysA_ren:={
 mixed:=by kernel_rfl
 f7:=⟨Tryd.f29.name,by decide,Tryd.func29.trans (congrArg some (by kernel_rfl))⟩
 f10:=⟨Tryd.f46.name,by decide,Tryd.func46.trans (congrArg some (by kernel_rfl))⟩
 t0:=Tryd.underlying0
 a0:=Tryd.isAgg0
 z0:=Tryd.sizeOf0
 v0:=Tryd.zeroValue0
 t4:=Tryd.underlying4
 a4:=Tryd.isAgg4
 z4:=Tryd.sizeOf4
 v4:=Tryd.zeroValue4
 t23:=Tryd.underlying75
 a23:=Tryd.isAgg75
 z23:=Tryd.sizeOf75
 v23:=Tryd.zeroValue75
 t26:=Tryd.underlying3
 a26:=Tryd.isAgg3
 z26:=Tryd.sizeOf3
 v26:=Tryd.zeroValue3
 t27:=Tryd.underlying79
 a27:=Tryd.isAgg79
 z27:=Tryd.sizeOf79
 v27:=Tryd.zeroValue79
 t28:=Tryd.underlying80
 a28:=Tryd.isAgg80
 z28:=Tryd.sizeOf80
 v28:=Tryd.zeroValue80
 t33:=Tryd.underlying87
 a33:=Tryd.isAgg87
 z33:=Tryd.sizeOf87
 v33:=Tryd.zeroValue87}
def Tryd.sortedA_ren:Go.Shelf.Ren:=⟨fun | 6=>28 | 8=>44 | 9=>45 | 11=>73 | 13=>75 | 12=>74 | 23=>105 | 24=>106 | 14=>97 | 15=>98 | 16=>99 | 17=>100 | 18=>101 | 19=>102 | 20=>47 | 21=>103 | 22=>104 | 25=>123 | 26=>124 | 27=>125 | 28=>126 | 29=>127 | 30=>76 | 31=>139 | n=>n,fun | 26=>3 | 28=>80 | 24=>32 | 0=>0 | 3=>3 | 37=>98 | 48=>151 | 50=>153 | 4=>4 | 40=>145 | 39=>144 | 45=>82 | 5=>5 | 9=>9 | 51=>166 | 55=>170 | 57=>186 | 58=>187 | 33=>87 | n=>n,fun | n=>n⟩
theorem Tryd.sortedA:Go.Proofs.SlLaysZI.n6 Tryd.prog Tryd.sortedA_ren:={
 mixed:=by kernel_rfl
 f6:=⟨Tryd.f28.name,by decide,Tryd.func28.trans (congrArg some (by kernel_rfl))⟩
 f8:=⟨Tryd.f44.name,by decide,Tryd.func44.trans (congrArg some (by kernel_rfl))⟩
 f11:=⟨Tryd.f73.name,by decide,Tryd.func73.trans (congrArg some (by kernel_rfl))⟩
 t0:=Tryd.underlying0
 a0:=Tryd.isAgg0
 z0:=Tryd.sizeOf0
 v0:=Tryd.zeroValue0
 t24:=Tryd.underlying32
 a24:=Tryd.isAgg32
 z24:=Tryd.sizeOf32
 v24:=Tryd.zeroValue32
 t26:=Tryd.underlying3
 a26:=Tryd.isAgg3
 z26:=Tryd.sizeOf3
 v26:=Tryd.zeroValue3
 t28:=Tryd.underlying80
 a28:=Tryd.isAgg80
 z28:=Tryd.sizeOf80
 v28:=Tryd.zeroValue80
 i26:=by kernel_rfl}
def Tryd.sortA_ren:Go.Shelf.Ren:=⟨fun | 5=>45 | 8=>75 | 7=>74 | 19=>105 | 20=>106 | 10=>97 | 11=>98 | 12=>99 | 13=>100 | 14=>101 | 15=>102 | 16=>47 | 17=>103 | 18=>104 | 30=>123 | 31=>124 | 32=>125 | 33=>126 | 34=>127 | 35=>76 | 40=>139 | n=>n,fun | 23=>32 | 25=>3 | 3=>3 | 32=>98 | 22=>32 | 0=>0 | 44=>151 | 46=>153 | 4=>4 | 36=>145 | 35=>144 | 41=>82 | 5=>5 | 9=>9 | 53=>166 | 57=>170 | 63=>186 | 64=>187 | n=>n,fun | n=>n⟩
theorem Tryd.sortA:Go.Proofs.SlLaysM.n5 Tryd.prog Tryd.sortA_ren:={
 mixed:=by kernel_rfl
 f5:=⟨Tryd.f45.name,by decide,Tryd.func45.trans (congrArg some (by kernel_rfl))⟩
 f7:=⟨Tryd.f74.name,by decide,Tryd.func74.trans (congrArg some (by kernel_rfl))⟩
 f8:=Tryd.func75.trans (congrArg some (by kernel_rfl))
 f10:=⟨Tryd.f97.name,by decide,Tryd.func97.trans (congrArg some (by kernel_rfl))⟩
 f11:=⟨Tryd.f98.name,by decide,Tryd.func98.trans (congrArg some (by kernel_rfl))⟩
 f12:=⟨Tryd.f99.name,by decide,Tryd.func99.trans (congrArg some (by kernel_rfl))⟩
 f13:=⟨Tryd.f100.name,by decide,Tryd.func100.trans (congrArg some (by kernel_rfl))⟩
 f14:=⟨Tryd.f101.name,by decide,Tryd.func101.trans (congrArg some (by kernel_rfl))⟩
 f15:=⟨Tryd.f102.name,by decide,Tryd.func102.trans (congrArg some (by kernel_rfl))⟩
 f16:=⟨Tryd.f47.name,by decide,Tryd.func47.trans (congrArg some (by kernel_rfl))⟩
 f17:=⟨Tryd.f103.name,by decide,Tryd.func103.trans (congrArg some (by kernel_rfl))⟩
 f18:=⟨Tryd.f104.name,by decide,Tryd.func104.trans (congrArg some (by kernel_rfl))⟩
 f19:=Tryd.func105.trans (congrArg some (by kernel_rfl))
 f20:=Tryd.func106.trans (congrArg some (by kernel_rfl))
 f30:=⟨Tryd.f123.name,by decide,Tryd.func123.trans (congrArg some (by kernel_rfl))⟩
 f31:=Tryd.func124.trans (congrArg some (by kernel_rfl))
 f32:=Tryd.func125.trans (congrArg some (by kernel_rfl))
 f33:=⟨Tryd.f126.name,by decide,Tryd.func126.trans (congrArg some (by kernel_rfl))⟩
 f34:=⟨Tryd.f127.name,by decide,Tryd.func127.trans (congrArg some (by kernel_rfl))⟩
 f35:=⟨Tryd.f76.name,by decide,Tryd.func76.trans (congrArg some (by kernel_rfl))⟩
 f40:=⟨Tryd.f139.name,by decide,Tryd.func139.trans (congrArg some (by kernel_rfl))⟩
 t0:=Tryd.underlying0
 a0:=Tryd.isAgg0
 z0:=Tryd.sizeOf0
 v0:=Tryd.zeroValue0
 t3:=Tryd.underlying3
 a3:=Tryd.isAgg3
 z3:=Tryd.sizeOf3
 v3:=Tryd.zeroValue3
 t4:=Tryd.underlying4
 a4:=Tryd.isAgg4
 z4:=Tryd.sizeOf4
 v4:=Tryd.zeroValue4
 t5:=Tryd.underlying5
 a5:=Tryd.isAgg5
 z5:=Tryd.sizeOf5
 v5:=Tryd.zeroValue5
 t9:=Tryd.underlying9
 a9:=Tryd.isAgg9
 z9:=Tryd.sizeOf9
 v9:=Tryd.zeroValue9
 t22:=Tryd.underlying32
 a22:=Tryd.isAgg32
 z22:=Tryd.sizeOf32
 v22:=Tryd.zeroValue32
 t23:=Tryd.underlying32
 a23:=Tryd.isAgg32
 z23:=Tryd.sizeOf32
 v23:=Tryd.zeroValue32
 t25:=Tryd.underlying3
 a25:=Tryd.isAgg3
 z25:=Tryd.sizeOf3
 v25:=Tryd.zeroValue3
 t32:=Tryd.underlying98
 a32:=Tryd.isAgg98
 z32:=Tryd.sizeOf98
 v32:=Tryd.zeroValue98
 t35:=Tryd.underlying144
 a35:=Tryd.isAgg144
 z35:=Tryd.sizeOf144
 v35:=Tryd.zeroValue144
 t36:=Tryd.underlying145
 a36:=Tryd.isAgg145
 z36:=Tryd.sizeOf145
 v36:=Tryd.zeroValue145
 t41:=Tryd.underlying82
 a41:=Tryd.isAgg82
 z41:=Tryd.sizeOf82
 v41:=Tryd.zeroValue82
 t44:=Tryd.underlying151
 a44:=Tryd.isAgg151
 z44:=Tryd.sizeOf151
 v44:=Tryd.zeroValue151
 t46:=Tryd.underlying153
 a46:=Tryd.isAgg153
 z46:=Tryd.sizeOf153
 v46:=Tryd.zeroValue153
 t53:=Tryd.underlying166
 a53:=Tryd.isAgg166
 z53:=Tryd.sizeOf166
 v53:=Tryd.zeroValue166
 t57:=Tryd.underlying170
 a57:=Tryd.isAgg170
 z57:=Tryd.sizeOf170
 v57:=Tryd.zeroValue170
 t63:=Tryd.underlying186
 a63:=Tryd.isAgg186
 z63:=Tryd.sizeOf186
 v63:=Tryd.zeroValue186
 t64:=Tryd.underlying187
 a64:=Tryd.isAgg187
 z64:=Tryd.sizeOf187
 v64:=Tryd.zeroValue187}
end Go.Proofs
set_option linter.unusedVariables false
set_option linter.unusedSimpArgs false
namespace Go.Proofs.YtkpjcmiijlpcaaaDoor.W
open Go Go.Proofs Go.RowKit Go.Maps Go.Sort Go.Shelf Go.Proofs.YtkpjcmiijlpcaaaDoor.Aw
noncomputable section
theorem sortsA (m:Nat):AnyZI.SortsIn Tryd.prog Tryd.sortedA_ren Fence.wide m:=
 ⟨fun blk off cap ss W hH hblk hsz=>callsIn_wide.2 (AnyM.slices_Sort_int Tryd.sortA blk off cap ss W hH hblk hsz),
  fun p cap W=>callsIn_wide.2 (AnyM.slices_Sort_int_none Tryd.sortA p cap W)⟩
theorem sorted_calls {H:Type} (g b nn:Nat) (D0:DataW H) (R:Value→Option (DataW H×List MemPlace)) (w:World) (hg:g<w.heap.size) (hcell:w.cell? ⟨g,0,none⟩=some (.map (some b))) (hown:w.ownsMap Tryd.prog 3 R b nn D0) (hmax:Maps.size D0≤maxLen) (hbytes:Maps.size D0*8≤140737488355328) :
 Calls Tryd.prog 28 #[.func (.func 46) #[] #[.pointer (some ⟨g,0,none⟩)]] w fun e w'=>∃(v:Value) (ss:List Int),e=.returned v∧ss.Perm (intKeys D0) ∧
  w'.ownsRow w.heap.size 3 1 v ss.length ((ss.mergeSort (fun x y=>decide (x≤y))).map encZ)∧(v=.slice none 0 0↔ss=[])∧Below w.heap.size w w':=by
 refine (callsIn_wide (n:=5)).1 ?_
 have hseq:SeqGives Fence.wide 2 Tryd.prog 46 #[.pointer (some ⟨g,0,none⟩)] encZ (fun ss=>ss.Perm (intKeys D0)) (Maps.size D0) w:=
  AnyZI.keys_gives (ρ:=Tryd.keysA_ren) {Tryd.keysA with} Fence.wide _ trivial rfl (by omega) g b nn D0 w hg hcell hown
 have cS:=AnyZI.sorted_in Tryd.sortedA Fence.wide 5 trivial trivial trivial trivial rfl (by omega) (sortsA _) (enters_of Tryd.func45 (by kernel_rfl) rfl) 46 #[.pointer (some ⟨g,0,none⟩)] trivial (enters_of Tryd.func46 (by kernel_rfl) rfl) _ _ hmax hbytes _ hseq
 change CallsIn _ _ Tryd.prog 28 _ _ _ at cS
 exact cS
def sortI (l:List Int):List Int:=l.mergeSort leI
theorem sortI_perm (l:List Int):(sortI l).Perm l:=List.mergeSort_perm _ _
theorem sortI_len (l:List Int):(sortI l).length=l.length:=(sortI_perm l).length_eq
theorem sortI_le (l:List Int):(sortI l).Pairwise (· ≤ ·):=by
 have tr:∀a b c:Int,leI a b=true→leI b c=true→leI a c=true:=fun a b c h1 h2=>by simp only[leI,decide_eq_true_eq] at *;exact Int.le_trans h1 h2
 have to:∀a b:Int,(leI a b||leI b a)=true:=fun a b=>by simp only[leI,Bool.or_eq_true,decide_eq_true_eq];exact Int.le_total a b
 exact (List.pairwise_mergeSort tr to l).imp fun {a b} h=>by simpa [leI] using h
def con28:List AV→List Ob→Option Tells2
 | [.fn (.func 46) .nl (.cons (.ptr 0 0) .nl)],[.cells 75 [.mp 1],.map true .unit es]=>some ⟨[es.length≤1099511627776,(es.map Prod.fst).Nodup,∀p∈es,-9223372036854775808≤p.1∧p.1≤9223372036854775807],.list 3 (.int .i64) (blk (sortI (es.map Prod.fst))),[none,none],[]⟩
 | _,_=>none
theorem owns_of {w:World} {b:Nat} {l:Array MapEntry} {es:List (Int×Unit)} {S:Nat→Prop} (hh:w.heap[b]? = some (.map l es.length)) (he:EntR S w true .unit es l) (h1:es.length≤1099511627776) (h2:(es.map Prod.fst).Nodup) (h3:∀p∈es,-9223372036854775808≤p.1∧p.1≤9223372036854775807) :
 ∃D0:DataW Unit,w.ownsMap Tryd.prog 3 (fun _=>some (.nil,[])) b es.length D0∧Maps.size D0=es.length∧(intKeys D0).Perm (es.map Prod.fst):=by
 obtain⟨hs,hp⟩:=he
 have hl:l.toList=es.zipIdx.map fun p=>(⟨.int .i64 p.1.1,.agg #[],p.2⟩:MapEntry):=by
  apply List.ext_getElem?
  intro i
  rw[List.getElem?_map,List.getElem?_zipIdx,Array.getElem?_toList]
  by_cases hi:i<es.length
  · obtain⟨cs,k1,k2⟩:=hp i es[i] (List.getElem?_eq_getElem hi)
    have k1:cs=[]:=k1
    subst k1
    rw[k2,List.getElem?_eq_getElem hi]
    simp[valV]
  · rw[Array.getElem?_eq_none (by omega),List.getElem?_eq_none (by omega)];rfl
 have hkey:∀n:Int,-9223372036854775808≤n∧n≤9223372036854775807→keyOf Tryd.prog 3 (.int .i64 n)=some (.int .i64 n):=by
  intro n hn
  simp[keyOf,Tryd.underlying3,mapKey,Lit.wf,IntKind.min,IntKind.max,IntKind.signed,IntKind.bits]
  omega
 have hrd:∀x∈l.toList,∃n:Int,x.key=.int .i64 n∧WideElems.rd Tryd.prog 3 (fun _=>some ((.nil:DataW Unit),[])) x=some (.int .i64 n,.nil):=by
  intro x hx
  rw[hl,List.mem_map] at hx
  obtain⟨p,hp,rfl⟩:=hx
  have:=h3 p.1 (List.fst_mem_of_mem_zipIdx hp)
  exact⟨p.1.1,rfl,by simp[WideElems.rd,hkey _ this]⟩
 have hmap:l.toList.map (WideElems.rg Tryd.prog 3 (fun _=>some ((.nil:DataW Unit),[])))=es.map fun p=>(Lit.int .i64 p.1,DataW.nil):=by
  rw[hl,List.map_map]
  apply List.ext_getElem?
  intro i
  rw[List.getElem?_map,List.getElem?_map,List.getElem?_zipIdx]
  by_cases hi:i<es.length
  · rw[List.getElem?_eq_getElem hi]
    have:=h3 es[i] (List.getElem_mem hi)
    simp[WideElems.rg,WideElems.rd,hkey _ this]
  · rw[List.getElem?_eq_none (by omega)];rfl
 refine⟨.map ((es.map fun p=>(Lit.int .i64 p.1,DataW.nil)).foldr DataW.insert []),⟨l,es.length,hh,⟨by rw[hs];unfold maxLen;omega,⟨fun x hx => ?_,?_,?_⟩,fun x hx=>by obtain⟨n,_,h⟩:=hrd x hx;exact⟨_,h⟩⟩,by omega,by rw[hmap]⟩,?_,?_⟩
 · rw[hl,List.mem_map] at hx
   obtain⟨p,hp,rfl⟩:=hx
   have:=List.snd_lt_of_mem_zipIdx hp
   simpa using this
 · rw[hl,List.map_map]
   have:(es.zipIdx.map ((fun x:MapEntry=>x.born)∘fun p=>(⟨.int .i64 p.1.1,.agg #[],p.2⟩:MapEntry)))=List.range es.length:=by
    apply List.ext_getElem?
    intro i
    rw[List.getElem?_map,List.getElem?_zipIdx]
    by_cases hi:i<es.length
    · rw[List.getElem?_eq_getElem hi,List.getElem?_range hi];simp
    · rw[List.getElem?_eq_none (by omega),List.getElem?_eq_none (by simpa using hi)];rfl
   rw[this]
   exact List.nodup_range
 · rw[hl,List.map_map]
   have:(es.zipIdx.map ((fun x:MapEntry=>x.key)∘fun p=>(⟨.int .i64 p.1.1,.agg #[],p.2⟩:MapEntry)))=(es.map Prod.fst).map (Value.int .i64):=by
    apply List.ext_getElem?
    intro i
    rw[List.getElem?_map,List.getElem?_zipIdx,List.getElem?_map,List.getElem?_map]
    by_cases hi:i<es.length
    · rw[List.getElem?_eq_getElem hi];simp
    · rw[List.getElem?_eq_none (by omega)];rfl
   rw[this]
   exact List.Pairwise.map _ (fun a b h e=>h (by cases e;rfl)) h2
 · show ((es.map fun p=>(Lit.int .i64 p.1,DataW.nil)).foldr DataW.insert []).length=es.length
   rw[length_sorted,List.length_map]
 · show (List.map (fun p:Lit×DataW Unit=>Go.intOf p.1) ((es.map fun p=>(Lit.int .i64 p.1,(DataW.nil:DataW Unit))).foldr DataW.insert [])).Perm (es.map Prod.fst)
   refine ((WideShapes.sorted_perm _).map _).trans ?_
   rw[List.map_map]
   exact List.Perm.refl _
theorem ok28:ConOk2 Tryd.prog (28,con28):=by
 intro args obs t h hp
 change con28 args obs=some t at h
 unfold con28 at h
 split at h
 rotate_left
 · cases h
 rename_i es
 change List (Int×Unit) at es
 cases h
 have p1:=hp (es.length≤1099511627776) (by simp)
 have p2:=hp ((es.map Prod.fst).Nodup) (by simp)
 have p3:=hp (∀p∈es,-9223372036854775808≤p.1∧p.1≤9223372036854775807) (by simp)
 clear hp
 refine⟨⟨Tryd.f28,Tryd.func28,by kernel_rfl,by kernel_rfl⟩,fun S β w vs hrel hvs => ?_⟩
 obtain⟨g,us,h1,h2,m,r0,e0,⟨u0,e1,g1,h3,h4⟩,e2⟩:=hrel.ob 0
 cases e1
 have e2:r0=[]:=e2
 subst e2 e0
 obtain⟨g',l,h5,h6,h7⟩:=hrel.ob 1
 rw[h5] at h3
 cases h3
 subst h4
 obtain⟨v0,r,e3,⟨cx,cy,e4,e5,q,r2,e6,⟨u,e7,g2,h8,h9⟩,e8⟩,e9⟩:=hvs
 rw[h1] at h8
 cases h8
 have e5:cx=[]:=e5
 have e8:r2=[]:=e8
 have e9:r=[]:=e9
 cases e7
 subst e5 e8 e9 e6 h9
 simp only[List.cons.injEq,and_true] at e4
 subst e4 e3
 have hgl:g<w.heap.size:=(Array.getElem?_eq_some_iff.1 h2).1
 obtain⟨D0,k1,k2,k3⟩:=owns_of h6 h7 p1 p2 p3
 refine (sorted_calls g g1 es.length D0 _ w hgl (by simp[World.cell?,h2]) k1 (by rw[k2];unfold maxLen;omega) (by rw[k2];omega)).mono ?_
 rintro e w' ⟨v,ss,rfl,hS,hrow,hnil,hb⟩
 have hperm:ss.Perm (es.map Prod.fst):=hS.trans k3
 have hsort:ss.mergeSort (fun x y=>decide (x≤y))=sortI (es.map Prod.fst):=mergeSort_of_perm_i hperm
 rw[hsort] at hrow
 have hlen:ss.length=(sortI (es.map Prod.fst)).length:=by rw[sortI_len];exact hperm.length_eq
 rw[blk_eq]
 obtain⟨hl,hc⟩:=hrow
 have hcat:∀(S:Nat→Prop) (W:World) (xs:List Int),Cat (DR S W (.int .i64)) xs (xs.map (Value.int .i64)):=by
  intro S W xs
  induction xs with
  | nil=>rfl
  | cons x xs ih=>exact⟨[_],_,rfl,rfl,ih⟩
 obtain⟨hr,hx⟩:=hrel.grow hb.os hb.tape hb.output hb.size (fun b hlt=>hb.block b hlt) (Nat.le_refl _)
 rcases hc with ⟨hv,hn⟩ | ⟨gb,cap,cur,hv,hge,hh,hcap,hmx,hsz,htk⟩
 · have hz:sortI (es.map Prod.fst)=[]:=by
    apply List.length_eq_zero_iff.1;omega
   rw[hz]
   refine⟨_,rfl,S,β,hr,⟨v,rfl,none,0,0,[],hv▸rfl,rfl,Nat.le_refl _,rfl,fun j u hj=>by simp at hj,fun _=>rfl⟩,fun i _=>hx.hO i⟩
 · have hgl':gb<w'.heap.size:=(Array.getElem?_eq_some_iff.1 hh).1
   let S2:Nat→Prop:=fun b=>S b∨b=gb
   have hx2:Ext S w' β (newsH [.cells 75 [.mp 1],.map true .unit es]) S2 w' β (newsH [.cells 75 [.mp 1],.map true .unit es]):=Ext.wide fun b hb=>.inl hb
   have hr2:Rel (Mof β [.cells 75 [.mp 1],.map true .unit es]) S w S2 β (newsH [.cells 75 [.mp 1],.map true .unit es]) w':=by
    refine⟨hr.fr,fun b hb=>.inl (hr.s0 b hb),?_,fun k b hl hg=>⟨(hr.own k b hl hg).1,(hr.own k b hl hg).2.1,?_⟩,hr.dis,fun k=>ObR.ext hx2 _ _ (fun _ _=>rfl) (hr.ob k),hr.gl.mono hx2.hS⟩
    · rintro b (hb' | rfl)
      · exact hr.sS b hb'
      · exact⟨hgl',.inr hge⟩
    · rintro (hb' | rfl)
      · exact (hr.own k b hl hg).2.2 hb'
      · have:=(hrel.own k b hl hg).2.1;omega
   refine⟨_,rfl,S2,β,hr2,⟨v,rfl,some ⟨gb,0,none⟩,ss.length,cap,_,by rw[hv],hlen,hcap,hcat _ _ _,fun j u hj=>⟨_,rfl,.inr ?_,?_⟩,fun h=>by cases h⟩,fun i _=>hx.hO i⟩
   · rfl
   · rw[add_lit,Nat.zero_add]
     have:cur[j]? = some u:=by
      rw[←htk,List.getElem?_take] at hj
      split at hj
      · simpa using hj
      · cases hj
     simp[World.cell?,hh,this]
end
end Go.Proofs.YtkpjcmiijlpcaaaDoor.W
set_option linter.unusedVariables false
set_option linter.unusedSimpArgs false
namespace Go.Proofs.YtkpjcmiijlpcaaaDoor.W
open Go Go.Proofs Go.Proofs.YtkpjcmiijlpcaaaDoor.Aw
noncomputable section
abbrev TL:Ty:=.pair (.int .i64) (.pair T4 (.pair (.int .i64) (.int .i64)))
abbrev TX:Ty:=.pair (.list 3 (.int .i64)) (.pair (.list 32 (.list 3 (.int .i64))) (.list 34 T4))
def tabN:Tab:=tab.tellS 32 (.ol 3 (.int .i64))
theorem tabN_ok:TabOk Tryd.prog tabN:=tab_ok.tellS _ _
def con29:List AV→List Ob→Option Tells2
 | [.mp 0],[.map true .unit es]=>some ⟨[],.fn (.func 46) .nl (.cons (.ptr 1 0) .nl),[none],[.cells 75 [.mp 0]]⟩
 | _,_=>none
theorem f29_run (R:AV→List Ob→Prop) (es:List (Int×Unit)):fnB tab eD4 Tryd.f29 (bodyOf Tryd.f29) [.mp 0] [.map true .unit es] R=(R (AV.fn (Fn.func 46) AV.nl ((AV.ptr 1 0).cons AV.nl)) [Ob.map true Ty.unit es,Ob.cells 75 [AV.mp 0]]):=by kernel_rfl
theorem ok29:ConOk2 Tryd.prog (29,con29):=by
 intro args obs t h hp
 change con29 args obs=some t at h
 unfold con29 at h
 split at h
 · rename_i es
   change List (Int×Unit) at es
   cases h
   refine fn_ok2 envD4 tab_ok mixed Tryd.func29 (by kernel_rfl) (by kernel_rfl) ?_
   rw[f29_run]
   try dsimp only
   exact⟨rfl,rfl⟩
 · cases h
def smR (r:Rc4):Bool:=small [r.1,r.2.1,r.2.2.1,r.2.2.2]
def fullR (r:Rc4):Bool:=fullW r.1 r.2.1 r.2.2.1 r.2.2.2
def edg1 (es:List (Int×PUnit)) (r:Rc4):List (Int×PUnit):=bif fullR r then mPut r.2.2.2 () (mPut r.2.1 () es) else es
def edg (xs:List Rc4):List (Int×PUnit):=xs.foldl edg1 []
def rowsOf (xs:List Rc4):List Int:=sortI ((edg xs).map Prod.fst)
def inB (r:Rc4) (v:Int):Bool:=fullR r&&(decide (r.2.1≤v)&&decide (v<r.2.2.2))
def bandK (xs:List Rc4) (v:Int):Nat→List Int
 | 0=>[]
 | k+1=>bandK xs v k++bif inB (xs.getD k (0,0,0,0)) v then [(k:Int)] else []
def bandsOf (xs:List Rc4) (rs:List Int):List (List Int):=rs.map fun v=>bandK xs v xs.length
theorem sm_of {r:Rc4} (h:smR r=true):(-1152921504606846976≤r.1∧r.1≤1152921504606846976)∧(-1152921504606846976≤r.2.1∧r.2.1≤1152921504606846976)∧(-1152921504606846976≤r.2.2.1∧r.2.2.1≤1152921504606846976)∧(-1152921504606846976≤r.2.2.2∧r.2.2.2≤1152921504606846976):=by
 simpa [smR,small] using h
theorem fullR_eq {r:Rc4} (h:smR r=true):fullR r=(decide (r.1<r.2.2.1)&&decide (r.2.1<r.2.2.2)):=by
 have:=sm_of h
 unfold fullR fullW
 rw[wrap_id _ (by omega),wrap_id _ (by omega)]
 congr 1<;>rw[decide_eq_decide]<;>omega
theorem put_len (k:Int) (es:List (Int×PUnit)):(mPut k () es).length≤es.length+1:=by
 have:=congrArg List.length (mPut_keys k () es)
 rw[List.length_map] at this
 rw[this]
 split<;>simp
theorem edg_len:∀(xs:List Rc4) (es:List (Int×PUnit)),(xs.foldl edg1 es).length≤es.length+2*xs.length
 | [],es=>by simp
 | x::xs,es=>by
  rw[List.foldl_cons,List.length_cons]
  have h1:=edg_len xs (edg1 es x)
  have h2:(edg1 es x).length≤es.length+2:=by
   unfold edg1
   cases fullR x
   · simp
   · have:=put_len x.2.2.2 (mPut x.2.1 () es)
     have:=put_len x.2.1 es
     simp only[cond_true];omega
  omega
theorem edg_nodup:∀(xs:List Rc4) (es:List (Int×PUnit)),(es.map Prod.fst).Nodup→((xs.foldl edg1 es).map Prod.fst).Nodup
 | [],es,h=>h
 | x::xs,es,h=>by
  rw[List.foldl_cons]
  refine edg_nodup xs _ ?_
  unfold edg1
  cases fullR x
  · exact h
  · exact mPut_nodup (mPut_nodup h)
theorem edg_mem (y:Int):∀(xs:List Rc4) (es:List (Int×PUnit)),y∈(xs.foldl edg1 es).map Prod.fst↔y∈es.map Prod.fst∨∃r∈xs,fullR r=true∧(y=r.2.1∨y=r.2.2.2)
 | [],es=>by simp
 | x::xs,es=>by
  rw[List.foldl_cons,edg_mem y xs]
  have h:y∈(edg1 es x).map Prod.fst↔y∈es.map Prod.fst∨(fullR x=true∧(y=x.2.1∨y=x.2.2.2)):=by
   unfold edg1
   cases hx:fullR x
   · simp
   · simp only[cond_true]
     have e1:y∈List.map Prod.fst (mPut x.2.2.2 () (mPut x.2.1 () es))↔y=x.2.2.2∨y∈List.map Prod.fst (mPut x.2.1 () es):=mPut_mem
     have e2:y∈List.map Prod.fst (mPut x.2.1 () es)↔y=x.2.1∨y∈List.map Prod.fst es:=mPut_mem
     rw[e1,e2]
     constructor
     · rintro (h | h | h)
       · exact .inr ⟨trivial,.inr h⟩
       · exact .inr ⟨trivial,.inl h⟩
       · exact .inl h
     · rintro (h | ⟨_,h | h⟩)
       · exact .inr (.inr h)
       · exact .inr (.inl h)
       · exact .inl h
  rw[h]
  constructor
  · rintro ((h | h) | ⟨r,h1,h2⟩)
    · exact .inl h
    · exact .inr ⟨x,by simp,h⟩
    · exact .inr ⟨r,by simp[h1],h2⟩
  · rintro (h | ⟨r,h1,h2⟩)
    · exact .inl (.inl h)
    · rcases List.mem_cons.1 h1 with rfl | h1
      · exact .inl (.inr h2)
      · exact .inr ⟨r,h1,h2⟩
theorem rows_mem (xs:List Rc4) (y:Int):y∈rowsOf xs↔∃r∈xs,fullR r=true∧(y=r.2.1∨y=r.2.2.2):=by
 unfold rowsOf
 rw[(sortI_perm _).mem_iff,edg,edg_mem]
 simp
theorem rows_len (xs:List Rc4):(rowsOf xs).length≤2*xs.length:=by
 unfold rowsOf
 rw[sortI_len,List.length_map]
 have:=edg_len xs []
 simpa [edg] using this
theorem lb_mem {rs:List Int} {y:Int} (hs:rs.Pairwise (· ≤ ·)) (h:y∈rs):lb rs y<rs.length∧rs.getD (lb rs y) 0=y:=by
 obtain⟨m,hm,e⟩:=List.getElem_of_mem h
 have h1:lb rs y≤m:=by
  refine Nat.le_of_not_lt fun hlt => ?_
  have:=lb_lt y rs m hlt
  rw[getD_nat' rs 0 m hm,e] at this
  omega
 have h2:lb rs y<rs.length:=by omega
 refine⟨h2,?_⟩
 have h3:=lb_ge y rs (lb rs y) hs (Nat.le_refl _) h2
 rw[getD_nat' rs 0 _ h2] at h3 ⊢
 by_cases he:lb rs y=m
 · simp only[he,e]
 · have:=List.pairwise_iff_getElem.1 hs (lb rs y) m h2 hm (by omega)
   omega
theorem band_len (xs:List Rc4) (v:Int):∀k,(bandK xs v k).length≤k
 | 0=>Nat.le_refl _
 | k+1=>by
  have:=band_len xs v k
  unfold bandK
  rw[List.length_append]
  cases inB (xs.getD k (0,0,0,0)) v<;>simp<;>omega
theorem inB_iff {rs:List Int} (hs:rs.Pairwise (· ≤ ·)) {r:Rc4} (hf:fullR r=true) {j:Nat} (hj:j<rs.length):inB r (rs.getD j 0)=decide (lb rs r.2.1≤j∧j<lb rs r.2.2.2):=by
 unfold inB
 rw[hf,Bool.true_and,Bool.decide_and]
 congr 1<;>rw[decide_eq_decide]
 · constructor
   · intro h
     refine Nat.le_of_not_lt fun hlt => ?_
     have:=lb_lt _ rs j hlt;omega
   · intro h;exact lb_ge _ rs j hs h hj
 · constructor
   · intro h
     refine Nat.lt_of_not_le fun hle => ?_
     have:=lb_ge _ rs j hs hle hj;omega
   · intro h;exact lb_lt _ rs j h
def consE0:Cons:=consD4
def twosE0:Cons2:=(28,con28)::(29,con29)::twosD4
def pansE0:Cons3:=pansD4
def itersE0:Cons4:=itersD4
abbrev eE0:Env:=envOf4 consE0 twosE0 pansE0 itersE0
theorem allconsE0:∀c∈consE0,ConOk Tryd.prog c:=allconsD4
theorem alltwosE0:∀c∈twosE0,ConOk2 Tryd.prog c:=all_cons ok28 (all_cons ok29 alltwosD4)
theorem allpansE0:∀c∈pansE0,ConOk3 Tryd.prog c:=allpansD4
theorem allitersE0:∀c∈itersE0,ConOk4 Tryd.prog c:=allitersD4
theorem envE0:EnvOk Tryd.prog eE0:=envOf4_ok _ _ _ _ allconsE0 alltwosE0 allpansE0 allitersE0
abbrev eE0h18:Env:=eE0.hint [98] []
theorem envE0h18:EnvOk Tryd.prog eE0h18:=envE0.hint _ _
def con18:List AV→Option Tells
 | [.agg (.cons (.list 34 (.pair (.int .i64) (.pair (.int .i64) (.pair (.int .i64) (.int .i64)))) xs) (.cons (.list 214 (.pair (.int .i64) (.pair (.pair (.int .i64) (.pair (.int .i64) (.pair (.int .i64) (.int .i64)))) (.pair (.int .i64) (.int .i64)))) []) .nl))]=>some ⟨[xs.length≤4096,xs.all smR=true],.lptr 74 TX [(blk (rowsOf xs),blk (bandsOf xs (rowsOf xs)),xs)] 0 0,[]⟩
 | _=>none
def f18_live1:List Nat:=[22,21,20,22,4,4,22,3,4,3,3,3,3,3,3,3,3,2]
def f18_head1 (xs:List T4.den) (s22:Int) (o1:List (Int×PUnit)):St:={slots:=[AV.undef,AV.undef,AV.nilp,AV.ptr 0 0,AV.mp 1]++List.replicate 15 AV.undef++[AV.list 34 (KI.pair (KI.pair (KI.pair KI))) xs,AV.int .i64 (↑xs.length:Int),AV.int .i64 s22]++List.replicate 82 AV.undef,obs:=[Ob.cells 74 [AV.row 2,AV.row 3,AV.list 34 (KI.pair (KI.pair (KI.pair KI))) xs],Ob.map true Ty.unit o1,Ob.row 3 KI [],Ob.row 32 (Ty.list 3 KI) []]}
def f18_q1 (R:AV→List Ob→Prop):Ex→St→Prop:=blockA 0 (seqQ tabN eE0h18 (subC [1,1,1,1] (bodyOf Tryd.f18)) [2] (endA tabN Tryd.f18 R))
def f18_loop1 (R:AV→List Ob→Prop) (xs:List T4.den) (s22:Int) (o1:List (Int×PUnit)):Prop:=loopT f18_live1 (codeA tabN eE0h18 (subC [1,1,1,0,1,0,0] (bodyOf Tryd.f18)) f18_live1) (f18_head1 xs s22 o1) (f18_q1 R)
def f18_live2:List Nat:=[57,56,57,55,57,3,3,3,3,57,3,2]
def f18_head2 (xs:List T4.den) (o1:List (Int×PUnit)) (s57':Int) (o1':List (List Int)):St:={slots:=[AV.undef,AV.undef,AV.nilp,AV.ptr 0 0]++List.replicate 51 AV.undef++[AV.list 34 (KI.pair (KI.pair (KI.pair KI))) xs,AV.int .i64 (↑xs.length:Int),AV.int .i64 s57']++List.replicate 47 AV.undef,obs:=[Ob.cells 74 [AV.list 3 KI (blk (sortI (List.map Prod.fst o1))),AV.row 1,AV.list 34 (KI.pair (KI.pair (KI.pair KI))) xs],Ob.orow 32 (Ty.ol 3 KI) o1']}
def f18_q2 (R:AV→List Ob→Prop):Ex→St→Prop:=blockA 2 (seqQ tabN eE0h18 (subC [1,1,1,1,1,1,1] (bodyOf Tryd.f18)) [2] (endA tabN Tryd.f18 R))
def f18_loop2 (R:AV→List Ob→Prop) (xs:List T4.den) (o1:List (Int×PUnit)) (s57':Int) (o1':List (List Int)):Prop:=loopT f18_live2 (codeA tabN eE0h18 (subC [1,1,1,1,1,1,0,1,0,0] (bodyOf Tryd.f18)) f18_live2) (f18_head2 xs o1 s57' o1') (f18_q2 R)
def f18_live3:List Nat:=[3,9,8,3,9,3,9,7,9,57,57,56,57,55,57,3,3,3,3,57,3,2]
def f18_head3 (xs:List T4.den) (o1:List (Int×PUnit)) (s57':Int) (s9'':Int) (o2'':List (List Int)):St:={slots:=[AV.undef,AV.undef,AV.nilp,AV.ptr 0 0,AV.undef,AV.undef,AV.undef,AV.int .i64 s57',AV.ptr 1 0,AV.int .i64 s9'']++List.replicate 45 AV.undef++[AV.list 34 (KI.pair (KI.pair (KI.pair KI))) xs,AV.int .i64 (↑xs.length:Int),AV.int .i64 s57']++List.replicate 47 AV.undef,obs:=[Ob.cells 74 [AV.list 3 KI (blk (sortI (List.map Prod.fst o1))),AV.row 2,AV.list 34 (KI.pair (KI.pair (KI.pair KI))) xs],Ob.cells 34 [AV.int .i64 (xs.getD s57'.toNat (0,0,0,0)).fst,AV.int .i64 (xs.getD s57'.toNat (0,0,0,0)).snd.fst,AV.int .i64 (xs.getD s57'.toNat (0,0,0,0)).snd.snd.fst,AV.int .i64 (xs.getD s57'.toNat (0,0,0,0)).snd.snd.snd],Ob.orow 32 (Ty.ol 3 KI) o2'']}
def f18_q3 (R:AV→List Ob→Prop) (J1:St→Prop):Ex→St→Prop:=blockA 4 (blockA 3 (seqQ tabN eE0h18 (subC [1,1,1,1,1,1,0,1,0,0,1,1,1] (bodyOf Tryd.f18)) [57,56,57,55,57,3,3,3,3,57,3,2] (thenA (fun s=>J1 (St.tidy f18_live2 s)) (blockA 2 (seqQ tabN eE0h18 (subC [1,1,1,1,1,1,1] (bodyOf Tryd.f18)) [2] (endA tabN Tryd.f18 R))))))
def f18_loop3 (R:AV→List Ob→Prop) (xs:List T4.den) (o1:List (Int×PUnit)) (s57':Int) (J1:St→Prop) (s9'':Int) (o2'':List (List Int)):Prop:=loopT f18_live3 (codeA tabN eE0h18 (subC [1,1,1,1,1,1,0,1,0,0,1,1,0,0,1,1,1,0,0] (bodyOf Tryd.f18)) f18_live3) (f18_head3 xs o1 s57' s9'' o2'') (f18_q3 R J1)
def f18_rhs3 (R:AV→List Ob→Prop) (xs:List T4.den) (o1:List (Int×PUnit)) (s57':Int) (J1:St→Prop) (J2:St→Prop) (s9'':Int) (o2'':List (List Int)):Prop:=0≤s9''∧s9''<(↑(blk (sortI (List.map Prod.fst o1))).length:Int)∧bif decide ((blk (sortI (List.map Prod.fst o1))).getD s9''.toNat 0<(xs.getD s57'.toNat (0,0,0,0)).snd.snd.snd) then 0≤s9''∧s9''<(↑o2''.length:Int)∧(List.length (o2''.getD s9''.toNat [])+1)*8≤140737488355328∧0≤s9''∧s9''<(↑(o2''.set s9''.toNat []).length:Int)∧s9''=s9''∧J2 (f18_head3 xs o1 s57' (IntKind.i64.wrap (s9''+1)) ((o2''.set s9''.toNat []).set s9''.toNat (o2''.getD s9''.toNat []++[s57']))) else J1 (f18_head2 xs o1 (IntKind.i64.wrap (s57'+1)) o2'')
theorem f18_eq3 (R:AV→List Ob→Prop) (xs:List T4.den) (o1:List (Int×PUnit)) (s57':Int) (J1:St→Prop) (J2:St→Prop) (s9'':Int) (o2'':List (List Int)):codeA tabN eE0h18 (subC [1,1,1,1,1,1,0,1,0,0,1,1,0,0,1,1,1,0,0] (bodyOf Tryd.f18)) f18_live3 (f18_head3 xs o1 s57' s9'' o2'') (thenA (fun s=>J2 (St.tidy f18_live3 s)) (f18_q3 R J1))=f18_rhs3 R xs o1 s57' J1 J2 s9'' o2'':=by kernel_rfl
set_option maxHeartbeats 2000000 in
theorem f18_rule3 (R:AV→List Ob→Prop) (xs:List T4.den) (o1:List (Int×PUnit)) (s57':Int) (J1:St→Prop) (I:Nat→(Int)→(List (List Int))→Prop) (n:Nat) (s9'':Int) (o2'':List (List Int)) (h0:I n s9'' o2'') (h:∀n,∀(s9'':Int) (o2'':List (List Int)),I n s9'' o2''→f18_rhs3 R xs o1 s57' J1 (fun t=>∃m,m<n∧∃(s9'':Int) (o2'':List (List Int)),t=f18_head3 xs o1 s57' s9'' o2''∧I m s9'' o2'') s9'' o2''):f18_loop3 R xs o1 s57' J1 s9'' o2'':=
 loop_intro (fun n t=>∃(s9'':Int) (o2'':List (List Int)),t=f18_head3 xs o1 s57' s9'' o2''∧I n s9'' o2'') n ⟨s9'',o2'',rfl,h0⟩ (fun n t ht=>by obtain⟨s9'',o2'',rfl,hI⟩:=ht;exact Eq.mpr (f18_eq3 R xs o1 s57' J1 (fun t=>∃m,m<n∧∃(s9'':Int) (o2'':List (List Int)),t=f18_head3 xs o1 s57' s9'' o2''∧I m s9'' o2'') s9'' o2'') (h n s9'' o2'' hI))
def f18_rhs2 (R:AV→List Ob→Prop) (xs:List T4.den) (o1:List (Int×PUnit)) (J1:St→Prop) (s57':Int) (o1':List (List Int)):Prop:=bif decide (s57'<(↑xs.length:Int)) then 0≤s57'∧s57'<(↑xs.length:Int)∧bif !fullW (xs.getD s57'.toNat (0,0,0,0)).fst (xs.getD s57'.toNat (0,0,0,0)).snd.fst (xs.getD s57'.toNat (0,0,0,0)).snd.snd.fst (xs.getD s57'.toNat (0,0,0,0)).snd.snd.snd then J1 (f18_head2 xs o1 (IntKind.i64.wrap (s57'+1)) o1') else (blk (sortI (List.map Prod.fst o1))).length≤1099511627776∧List.Pairwise (fun x1 x2=>x1≤x2) (blk (sortI (List.map Prod.fst o1)))∧f18_loop3 R xs o1 s57' J1 (↑(lb (blk (sortI (List.map Prod.fst o1))) (xs.getD s57'.toNat (0,0,0,0)).snd.fst):Int) o1' else R (AV.ptr 0 0) [Ob.cells 74 [AV.list 3 KI (blk (sortI (List.map Prod.fst o1))),AV.row 1,AV.list 34 (KI.pair (KI.pair (KI.pair KI))) xs],Ob.orow 32 (Ty.ol 3 KI) o1']
theorem f18_eq2 (R:AV→List Ob→Prop) (xs:List T4.den) (o1:List (Int×PUnit)) (J1:St→Prop) (s57':Int) (o1':List (List Int)):codeA tabN eE0h18 (subC [1,1,1,1,1,1,0,1,0,0] (bodyOf Tryd.f18)) f18_live2 (f18_head2 xs o1 s57' o1') (thenA (fun s=>J1 (St.tidy f18_live2 s)) (f18_q2 R))=f18_rhs2 R xs o1 J1 s57' o1':=by kernel_rfl
set_option maxHeartbeats 2000000 in
theorem f18_rule2 (R:AV→List Ob→Prop) (xs:List T4.den) (o1:List (Int×PUnit)) (I:Nat→(Int)→(List (List Int))→Prop) (n:Nat) (s57':Int) (o1':List (List Int)) (h0:I n s57' o1') (h:∀n,∀(s57':Int) (o1':List (List Int)),I n s57' o1'→f18_rhs2 R xs o1 (fun t=>∃m,m<n∧∃(s57':Int) (o1':List (List Int)),t=f18_head2 xs o1 s57' o1'∧I m s57' o1') s57' o1'):f18_loop2 R xs o1 s57' o1':=
 loop_intro (fun n t=>∃(s57':Int) (o1':List (List Int)),t=f18_head2 xs o1 s57' o1'∧I n s57' o1') n ⟨s57',o1',rfl,h0⟩ (fun n t ht=>by obtain⟨s57',o1',rfl,hI⟩:=ht;exact Eq.mpr (f18_eq2 R xs o1 (fun t=>∃m,m<n∧∃(s57':Int) (o1':List (List Int)),t=f18_head2 xs o1 s57' o1'∧I m s57' o1') s57' o1') (h n s57' o1' hI))
def f18_rhs1 (R:AV→List Ob→Prop) (xs:List T4.den) (J:St→Prop) (s22:Int) (o1:List (Int×PUnit)):Prop:=bif decide (s22<(↑xs.length:Int)) then 0≤s22∧s22<(↑xs.length:Int)∧bif fullW (xs.getD s22.toNat (0,0,0,0)).fst (xs.getD s22.toNat (0,0,0,0)).snd.fst (xs.getD s22.toNat (0,0,0,0)).snd.snd.fst (xs.getD s22.toNat (0,0,0,0)).snd.snd.snd then J (f18_head1 xs (IntKind.i64.wrap (s22+1)) (mPut (xs.getD s22.toNat (0,0,0,0)).snd.snd.snd () (mPut (xs.getD s22.toNat (0,0,0,0)).snd.fst () o1))) else J (f18_head1 xs (IntKind.i64.wrap (s22+1)) o1) else o1.length≤1099511627776∧(List.map Prod.fst o1).Nodup∧(∀(p:Int×Ty.unit.den),p∈o1 → -9223372036854775808≤p.fst∧p.fst≤9223372036854775807)∧0≤(↑(blk (sortI (List.map Prod.fst o1))).length:Int)∧(↑(blk (sortI (List.map Prod.fst o1))).length:Int)≤(↑(blk (sortI (List.map Prod.fst o1))).length:Int)∧24*(↑(blk (sortI (List.map Prod.fst o1))).length:Int)≤140737488355328∧f18_loop2 R xs o1 0 (List.replicate (↑(blk (sortI (List.map Prod.fst o1))).length:Int).toNat [])
theorem f18_eq1 (R:AV→List Ob→Prop) (xs:List T4.den) (J:St→Prop) (s22:Int) (o1:List (Int×PUnit)):codeA tabN eE0h18 (subC [1,1,1,0,1,0,0] (bodyOf Tryd.f18)) f18_live1 (f18_head1 xs s22 o1) (thenA (fun s=>J (St.tidy f18_live1 s)) (f18_q1 R))=f18_rhs1 R xs J s22 o1:=by kernel_rfl
set_option maxHeartbeats 2000000 in
theorem f18_rule1 (R:AV→List Ob→Prop) (xs:List T4.den) (I:Nat→(Int)→(List (Int×PUnit))→Prop) (n:Nat) (s22:Int) (o1:List (Int×PUnit)) (h0:I n s22 o1) (h:∀n,∀(s22:Int) (o1:List (Int×PUnit)),I n s22 o1→f18_rhs1 R xs (fun t=>∃m,m<n∧∃(s22:Int) (o1:List (Int×PUnit)),t=f18_head1 xs s22 o1∧I m s22 o1) s22 o1):f18_loop1 R xs s22 o1:=
 loop_intro (fun n t=>∃(s22:Int) (o1:List (Int×PUnit)),t=f18_head1 xs s22 o1∧I n s22 o1) n ⟨s22,o1,rfl,h0⟩ (fun n t ht=>by obtain⟨s22,o1,rfl,hI⟩:=ht;exact Eq.mpr (f18_eq1 R xs (fun t=>∃m,m<n∧∃(s22:Int) (o1:List (Int×PUnit)),t=f18_head1 xs s22 o1∧I m s22 o1) s22 o1) (h n s22 o1 hI))
theorem f18_run (R:AV→List Ob→Prop) (xs:List T4.den):fnA tabN eE0h18 Tryd.f18 (bodyOf Tryd.f18) [.agg (.cons (.list 34 T4 xs) (.cons (.list 214 TL []) .nl))] R=(xs.length*32≤140737488355328∧f18_loop1 R xs 0 []):=by kernel_rfl
theorem ok18:ConOk Tryd.prog (18,con18):=by
 intro args t h hp
 change con18 args=some t at h
 unfold con18 at h
 split at h
 · rename_i xs
   change List T4.den at xs
   cases h
   refine fn_okF envE0h18 tabN_ok mixed Tryd.func18 (by kernel_rfl) (by kernel_rfl) ?_
   rw[f18_run]
   try dsimp only
   have hm:=hp (xs.length≤4096) (by simp)
   have hsm:=hp (xs.all smR=true) (by simp)
   rw[blk_eq,blk_eq]
   refine⟨by omega,f18_rule1 _ xs (fun n i o=>∃k:Nat,k≤xs.length∧n=xs.length-k∧i=k∧o=edg (xs.take k)) xs.length 0 [] ⟨0,by omega,by simp,rfl,rfl⟩ ?_⟩
   rintro n i o ⟨k,hk,rfl,rfl,rfl⟩
   unfold f18_rhs1
   have hnext:∀k (h:k<xs.length),edg (xs.take (k+1))=edg1 (edg (xs.take k)) xs[k]:=fun k h=>by
    unfold edg
    rw[take_next xs k h,List.foldl_append]
    rfl
   refine dec_split (fun hlt=>⟨by omega,hlt,?_⟩) (fun hlt => ?_)
   · have hlt':k<xs.length:=by omega
     rw[getD_nat xs (0,0,0,0) k hlt',wrap_next k _ hlt' (by simp only[maxLen];omega)]
     refine cond_split (fun hc=>⟨xs.length-(k+1),by omega,_,_,rfl,k+1,by omega,rfl,rfl,?_⟩) (fun hc=>⟨xs.length-(k+1),by omega,_,_,rfl,k+1,by omega,rfl,rfl,?_⟩)
     · have hc:fullR xs[k]=true:=hc
       rw[hnext k hlt',edg1,hc]
       rfl
     · have hc:fullR xs[k]=false:=hc
       rw[hnext k hlt',edg1,hc]
       rfl
   rw[take_all xs k (by omega)]
   have hrows:blk (sortI (List.map Prod.fst (edg xs)))=rowsOf xs:=by rw[blk_eq];rfl
   have hlen:(edg xs).length≤2*xs.length:=by simpa [edg] using edg_len xs []
   have hR:=rows_len xs
   obtain⟨R,hRe⟩:∃R,R=rowsOf xs:=⟨_,rfl⟩
   have hs:R.Pairwise (· ≤ ·):=by rw[hRe];exact sortI_le _
   rw[hrows,←hRe]
   rw[←hRe] at hR
   refine⟨by omega,edg_nodup xs [] List.nodup_nil,fun p hp => ?_,by omega,by omega,by omega,?_⟩
   · have h1:p.1∈(edg xs).map Prod.fst:=List.mem_map_of_mem hp
     have h2:=(edg_mem p.1 xs []).1 h1
     rcases h2 with h2 | ⟨r,h2,_,h3⟩
     · simp at h2
     · have:=sm_of (List.all_eq_true.1 hsm r h2)
       rcases h3 with h3 | h3<;>rw[h3]<;>omega
   refine f18_rule2 _ xs (edg xs) (fun n i o=>∃k:Nat,k≤xs.length∧n=xs.length-k∧i=k∧o.length=R.length∧∀j,j<R.length→o.getD j []=bandK xs (R.getD j 0) k) xs.length 0 _ ⟨0,by omega,by simp,rfl,by simp,fun j hj=>by simp[List.getD,hj,bandK]⟩ ?_
   rintro n i o ⟨k,hk,rfl,rfl,ho,hband⟩
   unfold f18_rhs2
   rw[hrows,←hRe]
   refine dec_split (fun hlt=>⟨by omega,hlt,?_⟩) (fun hlt => ?_)
   · have hlt':k<xs.length:=by omega
     rw[Int.toNat_natCast,wrap_next k _ hlt' (by simp only[maxLen];omega)]
     obtain⟨r,hr⟩:∃r,r=xs.getD k (0,0,0,0):=⟨_,rfl⟩
     rw[←hr]
     have hnx:∀j,bandK xs (R.getD j 0) (k+1)=bandK xs (R.getD j 0) k++bif inB r (R.getD j 0) then [(k:Int)] else []:=fun j=>by rw[hr];rfl
     refine cond_split (fun hc=>⟨xs.length-(k+1),by omega,_,_,rfl,k+1,by omega,rfl,rfl,ho,fun j hj => ?_⟩) (fun hc => ?_)
     · have hc:fullR r=false:=by unfold fullR;simpa using hc
       rw[hnx,hband j hj,inB,hc]
       simp
     have hf:fullR r=true:=by unfold fullR;simpa using hc
     have hrx:r∈xs:=by rw[hr,getD_nat' _ _ k hlt'];exact List.getElem_mem hlt'
     have hb1:r.2.2.2∈R:=by rw[hRe,rows_mem];exact⟨r,hrx,hf,.inr rfl⟩
     obtain⟨hl1,hl2⟩:=lb_mem hs hb1
     have hle:lb R r.2.1≤lb R r.2.2.2:=by
      have hsm1:=fullR_eq (List.all_eq_true.1 hsm r hrx)
      rw[hf] at hsm1
      have h3:r.2.1<r.2.2.2:=by
       have:=hsm1.symm
       simp at this
       exact this.2
      refine Nat.le_of_not_lt fun hlt => ?_
      have:=lb_lt _ R _ hlt
      rw[hl2] at this
      exact absurd this (Int.not_lt.2 (Int.le_of_lt h3))
     refine⟨by omega,hs,?_⟩
     refine f18_rule3 _ xs (edg xs) k _ (fun n i o2=>∃a:Nat,lb R r.2.1≤a∧a≤lb R r.2.2.2∧n=lb R r.2.2.2-a∧i=a∧o2.length=R.length∧∀j,j<R.length→o2.getD j []=bandK xs (R.getD j 0) k++bif decide (lb R r.2.1≤j∧j<a) then [(k:Int)] else []) _ _ o ⟨lb R r.2.1,by omega,hle,rfl,rfl,ho,fun j hj=>by rw[hband j hj,decide_eq_false (by omega)];simp⟩ ?_
     rintro n i o2 ⟨a,ha1,ha2,rfl,rfl,ho2,hb2⟩
     unfold f18_rhs3
     rw[hrows,←hRe,Int.toNat_natCast,Int.toNat_natCast,←hr]
     refine⟨by omega,by omega,dec_split (fun hx => ?_) (fun hx => ?_)⟩
     · have hal:a<lb R r.2.2.2:=by
        refine Nat.lt_of_not_le fun hle => ?_
        have:=lb_ge _ R a hs hle (by omega)
        exact absurd hx (Int.not_lt.2 this)
       have hbl:=band_len xs (R.getD a 0) k
       refine⟨by omega,by omega,?_,by omega,by rw[List.length_set];omega,rfl,?_⟩
       · rw[hb2 a (by omega),List.length_append]
         cases decide (lb R r.2.1≤a∧a<a)<;>simp only[cond_false,cond_true,List.length_nil,List.length_cons]<;>omega
       · refine⟨lb R r.2.2.2-(a+1),by omega,_,_,rfl,a+1,by omega,by omega,rfl,wrap_next a R.length (by omega) (by simp only[maxLen];omega),by rw[List.length_set,List.length_set];exact ho2,fun j hj => ?_⟩
         by_cases he:j=a
         · subst he
           rw[List.getD_eq_getElem?_getD,List.getElem?_set_self (by rw[List.length_set];omega),Option.getD_some,hb2 j hj,decide_eq_false (by omega),decide_eq_true (by omega)]
           simp
         · rw[List.getD_eq_getElem?_getD,List.getElem?_set_ne (Ne.symm he),List.getElem?_set_ne (Ne.symm he),←List.getD_eq_getElem?_getD,hb2 j hj]
           congr 2
           rw[decide_eq_decide]
           omega
     · have hae:a=lb R r.2.2.2:=by
        refine Nat.le_antisymm ha2 (Nat.le_of_not_lt fun hlt => ?_)
        exact hx (lb_lt _ R a hlt)
       subst hae
       rw[wrap_next k _ hlt' (by simp only[maxLen];omega)]
       exact⟨xs.length-(k+1),by omega,_,_,rfl,k+1,by omega,rfl,rfl,ho2,fun j hj=>by rw[hb2 j hj,hnx,inB_iff hs hf hj]⟩
   · have e:k=xs.length:=by omega
     subst e
     have ho3:o=bandsOf xs R:=by
      apply List.ext_getElem?
      intro j
      by_cases hj:j<R.length
      · have:=hband j hj
        rw[getD_nat' _ _ j (by omega)] at this
        rw[List.getElem?_eq_getElem (by omega),this,bandsOf,List.getElem?_map,List.getElem?_eq_getElem hj,getD_nat' _ _ j hj]
        rfl
      · rw[List.getElem?_eq_none (by omega),List.getElem?_eq_none (by rw[bandsOf,List.length_map];omega)]
     rw[ho3]
     refine .ptr 0 0 _ _ _ [.list 3 (.int .i64) R,.list 32 (.list 3 (.int .i64)) (bandsOf xs R),.list 34 T4 xs] TX _ rfl (.cons _ _ _ _ (.keep _ rfl rfl) (.cons _ _ _ _ (.orow 1 32 (.ol 3 (.int .i64)) _ _ rfl (List.map_id _)) (.cons _ _ _ _ (.keep _ rfl rfl) .nl))) rfl
 · cases h
end
end Go.Proofs.YtkpjcmiijlpcaaaDoor.W
