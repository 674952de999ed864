import Derived.Test.YtbibnpdnmmgacaaGreatDoorJZf
import Derived.Shelf.Strings.Builder1
import Derived.Shelf.Small.Bits
import Derived.Shelf.Small.Wraps
import Derived.Shelf.Strconv.Itoa0
import Derived.Test.YtbibnpdnmmgacaaGreatDoorProg
import Derived.Test.YtbibnpdnmmgacaaGreatDoorJZb
import Derived.Shelf.SlSortCmp.WholeK
import Derived.Test.YtbibnpdnmmgacaaGreatDoorJZd
import Derived.Ground.SlsfProg
set_option linter.unusedVariables false
set_option linter.unusedSimpArgs false
set_option maxRecDepth 100000
namespace Go.Sx
open Go.RowKit
def flatS (op:Int):List Ex→List Value→List (List Value)→List Value
 | k :: ks,s :: ss,t :: ts=>(if k.op=op then t else [s])++flatS op ks ss ts
 | _,_,_=>[]
theorem flatE_cons (op:Int) (k:Ex) (ks:List Ex):flatE op (k :: ks)=(if k.op=op then k.kids else [k])++flatE op ks:=by simp [flatE]
theorem flatE_snoc (op:Int) (k:Ex) (ks:List Ex):flatE op (ks++[k])=flatE op ks++(if k.op=op then k.kids else [k]):=by simp [flatE]
theorem flatE_take_le (op:Int) (ks:List Ex) (k:Nat):(flatE op (ks.take k)).length≤(flatE op ks).length:=by
 have:flatE op ks=flatE op (ks.take k)++flatE op (ks.drop k):=by rw [flatE,flatE,flatE,← List.flatMap_append,List.take_append_drop]
 rw [this];simp
theorem flatS_snoc (op:Int) (k:Ex) (s:Value) (t:List Value):∀ (ks:List Ex) (ss:List Value) (ts:List (List Value)),ss.length=ks.length→ts.length=ks.length →
  flatS op (ks++[k]) (ss++[s]) (ts++[t])=flatS op ks ss ts++(if k.op=op then t else [s])
 | [],[],[],_,_=>by simp [flatS]
 | [],_ :: _,_,h,_=>by simp at h
 | [],[],_ :: _,_,h=>by simp at h
 | _ :: _,[],_,h,_=>by simp at h
 | _ :: _,_ :: _,[],_,h=>by simp at h
 | a :: ks,b :: ss,c :: ts,h,h'=>by
  simp only [List.cons_append,flatS,flatS_snoc op k s t ks ss ts (by simpa using h) (by simpa using h'),List.append_assoc]
theorem flat_at (op:Int):∀ (ks:List Ex) (ss:List Value) (ts:List (List Value)),ss.length=ks.length→ts.length=ks.length→(∀ i,i<ks.length→(ts.getD i []).length=(ks.getD i default).kids.length) →
  (flatS op ks ss ts).length=(flatE op ks).length∧∀ m,m<(flatE op ks).length→∃ i,i<ks.length∧(((flatE op ks).getD m default=ks.getD i default∧(flatS op ks ss ts).getD m undef=ss.getD i undef) ∨
   (∃ j,j<(ks.getD i default).kids.length∧(flatE op ks).getD m default=(ks.getD i default).kids.getD j default∧(flatS op ks ss ts).getD m undef=(ts.getD i []).getD j undef))
 | [],ss,ts,_,_,_=>by
  refine ⟨by cases ss <;> simp [flatS,flatE],fun m hm=>by simp [flatE] at hm⟩
 | _ :: _,[],_,h,_,_=>by simp at h
 | _ :: _,_ :: _,[],_,h,_=>by simp at h
 | k :: ks,s :: ss,t :: ts,h,h',h3=>by
  obtain ⟨h4,h5⟩:=flat_at op ks ss ts (by simpa using h) (by simpa using h') (fun i hi=>by simpa using h3 (i+1) (by simpa using hi))
  have ht:t.length=k.kids.length:=by simpa using h3 0 (by simp)
  rw [flatE_cons]
  simp only [flatS]
  by_cases hk:k.op=op
  ·simp only [hk,if_true,List.length_append,h4,ht]
   refine ⟨trivial,fun m hm=>?_⟩
   rcases Nat.lt_or_ge m k.kids.length with hlt | hge
   ·refine ⟨0,by simp,.inr ⟨m,by simpa using hlt,?_,?_⟩⟩
    ·simp [List.getD_eq_getElem?_getD,List.getElem?_append_left hlt]
    ·simp [List.getD_eq_getElem?_getD,List.getElem?_append_left (show m<t.length by omega)]
   ·obtain ⟨i,hi,h6⟩:=h5 (m - k.kids.length) (by omega)
    refine ⟨i+1,by simpa using hi,?_⟩
    have e1:(k.kids++flatE op ks).getD m default=(flatE op ks).getD (m - k.kids.length) default:=by simp [List.getD_eq_getElem?_getD,List.getElem?_append_right hge]
    have e2:(t++flatS op ks ss ts).getD m undef=(flatS op ks ss ts).getD (m - k.kids.length) undef:=by simp [List.getD_eq_getElem?_getD,List.getElem?_append_right (show t.length≤m by omega),ht]
    rw [e1,e2]
    simpa using h6
  ·simp only [hk,if_false,List.length_append,h4]
   refine ⟨by simp,fun m hm=>?_⟩
   cases m with
   | zero=>exact ⟨0,by simp,.inl ⟨by simp,by simp⟩⟩
   | succ m=>
    obtain ⟨i,hi,h6⟩:=h5 m (by simp at hm;omega)
    exact ⟨i+1,by simpa using hi,by simpa using h6⟩
theorem flatT_len {op:Int} {ks:List Ex} {ss:List Value} {tss:List (List Value)} (h1:ss.length=ks.length) (h2:tss.length=ks.length) (h3:∀ i,i<ks.length→(tss.getD i []).length=(ks.getD i default).kids.length) (k:Nat) :
  (flatS op (ks.take k) (ss.take k) (tss.take k)).length=(flatE op (ks.take k)).length:=
 (flat_at op (ks.take k) (ss.take k) (tss.take k) (by simp [h1]) (by simp [h2]) (fun i hi=>by
  have hi':i<k∧i<ks.length:=by rw [List.length_take] at hi;omega
  have:=h3 i hi'.2
  simpa [List.getD_eq_getElem?_getD,List.getElem?_take,hi'.1] using this)).1
theorem Opn2.flat {l l':List Itm} {s:Value} {ks:List Ex} {ss:List Value} {tss:List (List Value)} (h:Opn2 l l' s ks ss tss) (op:Int):(flatS op ks ss tss).length=(flatE op ks).length ∧
  ∀ m,m<(flatE op ks).length→Itm.deep ((flatS op ks ss tss).getD m undef) ((flatE op ks).getD m default).kids∈l'∧IsSl ((flatS op ks ss tss).getD m undef):=by
 obtain ⟨h1,h2⟩:=flat_at op ks ss tss h.o.len h.tl (fun i hi=>(h.each i hi).len)
 refine ⟨h1,fun m hm=>?_⟩
 obtain ⟨i,hi,⟨e1,e2⟩ | ⟨j,hj,e1,e2⟩⟩:=h2 m hm
 ·rw [e1,e2];exact ⟨h.o.kid i hi,h.o.sls i hi⟩
 ·rw [e1,e2];exact ⟨(h.each i hi).kid j hj,(h.each i hi).sls j hj⟩
theorem filter_take_snoc {p:Ex→Bool} {ks:List Ex} {k:Nat} (hk:k<ks.length):(ks.take (k+1)).filter p=(ks.take k).filter p++(if p (ks.getD k default) then [ks.getD k default] else []):=by
 rw [take_snocD default ks k hk,List.filter_append]
 congr 1
 by_cases h:p (ks.getD k default)=true
 ·rw [if_pos h,List.filter_cons_of_pos h];rfl
 ·rw [if_neg h,List.filter_cons_of_neg h];rfl
theorem filter_take_le {p:Ex→Bool} {ks:List Ex} (k:Nat) (h:k≤ks.length):((ks.take k).filter p).length≤k:=by
 have:=List.length_filter_le p (ks.take k)
 simp at this;omega
structure DelI (p:Ex→Bool) (ks:List Ex) (ss:List Value) (j i:Nat) (ks':List Ex) (ss':List Value):Prop where
 le:j≤ks.length
 len:ks'.length=ks.length
 slen:ss'.length=ks'.length
 i_eq:i=((ks.take j).filter p).length
 pre:ks'.take i=(ks.take j).filter p
 suf:∀ m,j≤m→ks'.getD m default=ks.getD m default∧ss'.getD m undef=ss.getD m undef
 sub:∀ m,m<ks.length→∃ q,q<ks.length∧ks'.getD m default=ks.getD q default∧ss'.getD m undef=ss.getD q undef
theorem DelI.lt {p:Ex→Bool} {ks ks':List Ex} {ss ss':List Value} {j i:Nat} (h:DelI p ks ss j i ks' ss'):i≤j:=by rw [h.i_eq];exact filter_take_le j h.le
theorem getT_set_eq {α:Type} (d:α) {l:List α} {i:Nat} (h:i<l.length) (a:α):(l.set i a).getD i d=a:=by simp [List.getD_eq_getElem?_getD,h]
theorem getT_set_ne {α:Type} (d:α) {l:List α} {i j:Nat} (h:i ≠ j) (a:α):(l.set i a).getD j d=l.getD j d:=by simp [List.getD_eq_getElem?_getD,List.getElem?_set_ne h]
theorem DelI.keep {p:Ex→Bool} {ks ks':List Ex} {ss ss':List Value} {j i:Nat} (h:DelI p ks ss j i ks' ss') (hj:j<ks.length) (hp:p (ks.getD j default)=true) :
  DelI p ks ss (j+1) (i+1) (ks'.set i (ks'.getD j default)) (ss'.set i (ss'.getD j undef)):=by
 have hij:=h.lt
 obtain ⟨e1,e2⟩:=h.suf j (Nat.le_refl _)
 have hl:=h.len;have hsl:=h.slen
 refine ⟨by omega,by simp [hl],by simp [hsl],?_,?_,?_,?_⟩
 ·rw [filter_take_snoc hj,if_pos hp,List.length_append,← h.i_eq];rfl
 ·rw [filter_take_snoc hj,if_pos hp,← h.pre,e1]
  rw [List.take_add_one,List.take_set_of_le (by omega)]
  congr 1
  simp [show i<ks'.length by omega]
 ·intro m hm
  rw [getT_set_ne _ (by omega),getT_set_ne _ (by omega)]
  exact h.suf m (by omega)
 ·intro m hm
  by_cases hmi:i=m
  ·subst hmi
   rw [getT_set_eq _ (by omega),getT_set_eq _ (by omega)]
   exact ⟨j,hj,e1,e2⟩
  ·rw [getT_set_ne _ hmi,getT_set_ne _ hmi];exact h.sub m hm
theorem DelI.drop {p:Ex→Bool} {ks ks':List Ex} {ss ss':List Value} {j i:Nat} (h:DelI p ks ss j i ks' ss') (hj:j<ks.length) (hp:p (ks.getD j default)=false):DelI p ks ss (j+1) i ks' ss':=by
 refine ⟨by omega,h.len,h.slen,?_,?_,fun m hm=>h.suf m (by omega),h.sub⟩
 ·rw [filter_take_snoc hj,hp,h.i_eq];simp
 ·rw [filter_take_snoc hj,hp,h.pre];simp
theorem DelI.psub {p:Ex→Bool} {ks ks':List Ex} {ss ss':List Value} {i:Nat} (h:DelI p ks ss ks.length i ks' ss'):PSub (ks.filter p) (ss'.take i) ks ss∧ks'.take i=ks.filter p∧i=(ks.filter p).length:=by
 have hp:=h.pre;have hi:=h.i_eq
 rw [List.take_length] at hp hi
 have hl:=h.len;have hsl:=h.slen;have hij:=h.lt
 refine ⟨⟨by simp;omega,by have:=List.length_filter_le p ks;omega,fun k hk=>?_⟩,hp,hi⟩
 obtain ⟨q,h1,h2,h3⟩:=h.sub k (by omega)
 refine ⟨q,h1,?_,?_⟩
 ·rw [← hp,← h2];simp [List.getD_eq_getElem?_getD,List.getElem?_take,show k<i by omega]
 ·rw [← h3];simp [List.getD_eq_getElem?_getD,List.getElem?_take,show k<i by omega]
theorem findIdx_first {p:Ex→Bool} {ks:List Ex} (h:ks.any p=true):ks.findIdx p<ks.length∧p (ks.getD (ks.findIdx p) default)=true∧∀ i,i<ks.findIdx p→p (ks.getD i default)=false:=by
 have hlt:ks.findIdx p<ks.length:=List.findIdx_lt_length_of_exists (by simpa using h)
 refine ⟨hlt,?_,fun i hi=>?_⟩
 ·have:=List.findIdx_getElem (p:=p) (xs:=ks) (w:=hlt)
  simpa [List.getD_eq_getElem?_getD,hlt] using this
 ·have:=List.not_of_lt_findIdx (p:=p) (xs:=ks) hi
  simpa [List.getD_eq_getElem?_getD,show i<ks.length by omega] using this
theorem filter_all {p:Ex→Bool}:∀ (ks:List Ex),(∀ i,i<ks.length→p (ks.getD i default)=true)→ks.filter p=ks:=fun ks h=>by
 rw [List.filter_eq_self]
 intro x hx
 obtain ⟨i,hi⟩:=List.mem_iff_getElem?.1 hx
 have hl:=(List.getElem?_eq_some_iff.1 hi).1
 simpa [List.getD_eq_getElem?_getD,hi] using h i hl
theorem filter_not {p:Ex→Bool} {ks:List Ex} (h:ks.any p=false):ks.filter (fun e=>!p e)=ks:=by
 rw [List.filter_eq_self]
 intro x hx
 rw [List.any_eq_false] at h
 simpa using h x hx
theorem DelI.start {p:Ex→Bool} {ks:List Ex} {ss:List Value} (hl:ss.length=ks.length) (h:ks.any p=true):DelI (fun e=>!p e) ks ss (ks.findIdx p+1) (ks.findIdx p) ks ss:=by
 obtain ⟨h1,h2,h3⟩:=findIdx_first h
 have e:(ks.take (ks.findIdx p)).filter (fun e=>!p e)=ks.take (ks.findIdx p):=filter_all _ (fun i hi=>by
  have hi':i<ks.findIdx p∧i<ks.length:=by rw [List.length_take] at hi;omega
  have:=h3 i hi'.1
  simp [List.getD_eq_getElem?_getD,List.getElem?_take,hi'.1] at this ⊢
  exact this)
 have e2:(ks.take (ks.findIdx p+1)).filter (fun e=>!p e)=ks.take (ks.findIdx p):=by
  rw [filter_take_snoc h1,h2,e];simp
 refine ⟨h1,rfl,hl,?_,e2.symm,fun m _=>⟨rfl,rfl⟩,fun m hm=>⟨m,hm,rfl,rfl⟩⟩
 rw [e2];simp;omega
end Go.Sx
namespace Go.Proofs.YtbibnpdnmmgacaaGreatDoor
open Go.Sx Go.RowKit
set_option maxHeartbeats 800000 in
theorem s_flatten (w:World) (op:Int) (s:Value) (ks:List Ex) (ss:List Value) (tss:List (List Value)) (hl:ss.length=ks.length) (htl:tss.length=ks.length) (h3:∀ i,i<ks.length→(tss.getD i []).length=(ks.getD i default).kids.length) (hr:Rd (fun b=>¬ (fun _=>False) b) w s 3 ks.length (xcs ks ss)) (hkr:∀ i,i<ks.length→Rd (fun b=>¬ (fun _=>False) b) w (ss.getD i undef) 3 (ks.getD i default).kids.length (xcs (ks.getD i default).kids (tss.getD i []))) (hsl:∀ i,i<ks.length→IsSl (ss.getD i undef)) (hsl2:∀ i,i<ks.length→∀ j,j<(ks.getD i default).kids.length→IsSl ((tss.getD i []).getD j undef)) (hlim:(flatE op ks).length≤1073741824):CallS Tryz.prog 193 [.int .i64 op,s] w (fun r o=>IsSl r∧o=[row r 24 3 (flatE op ks).length (xcs (flatE op ks) (flatS op ks ss tss))]):=by
 have hm:=hr.le
 refine spec_of Tryz.func193 rfl (leb rfl) ?_
 refine .sr fun _ hK1=>?_
 refine .as rfl (.nt hK1 ?_)
 refine .sr fun _ hK2=>?_
 refine .as rfl (.nt hK2 ?_)
 refine .seq fun _ hK3=>?_
 refine .sr fun _ hK4=>?_
 refine .mv rfl (.v (.lenR sl22 rfl rdp) (.mv rfl (.nt hK4 (.block ?_))))
 refine AK.loopK (X:=Nat × Value) [(0,_),(8,_),(9,_)] (fun x=>[(10,.int .i64 (x.1:Int)),(5,x.2)]) (fun x=>[row x.2 24 3 (flatE op (ks.take x.1)).length (xcs (flatE op (ks.take x.1)) (flatS op (ks.take x.1) (ss.take x.1) (tss.take x.1)))]) (fun x=>x.1≤ks.length∧IsSl x.2) (fun x=>ks.length - x.1) ((0,.slice none 0 0)) slr ?_ ?_ ?_ ?_
 ·exact ⟨Nat.zero_le _,nilSl⟩
 ·exact slr
 ·exact fun w hw=>by simpa [flatE,flatS,xcs] using hw.ghost 24 3
 ·intro x hg0 _ hK5
  refine .sr fun _ hK6=>?_
  refine .v (.lss rfl rfl) (.nt hK6 ?_)
  refine .seq fun _ hK7=>?_
  refine AK.condD rfl (fun hc0=>?_) (fun hc0=>?_)
  ·have sk:=hsl x.1 (by omega)
   have hb:=flatE_take_le op ks (x.1+1)
   rw [take_snocD default ks x.1 (by omega),flatE_snoc,List.length_append] at hb
   refine .skip ?_
   refine AK.then_ (hK7 _ ?_)
   refine .seq fun _ hK8=>?_
   refine .block ?_
   refine .sr fun _ hK9=>?_
   first | refine .v (.iN sl22 rfl rfl) ?_ | refine .v (.iK sl22 rfl rfl) ?_
   refine .v (.loadE ag24 rfl rdp (by assumption) rfl (by omega)) ?_
   refine AK.alloc el24 rfl rfl trivial rfl (fun bx7=>?_)
   refine AK.storeBox 1 (us:=[.int .i64 (ks.getD x.1 default).op,.int .i64 (ks.getD x.1 default).lt,ss.getD x.1 undef]) (cs':=[.int .i64 (ks.getD x.1 default).op,.int .i64 (ks.getD x.1 default).lt,ss.getD x.1 undef]) rfl sz24 rfl rfl rfl rfl oneP (leb rfl) rfl trivial ?_
   refine .nt hK9 ?_
   refine .sr fun _ hK10=>?_
   refine .v (.fieldAddr fd24_0 rfl) (.v (.loadBox on3 rfl bsp rfl) (.mv rfl (.v (.eql rfl rfl) (.nt hK10 ?_))))
   refine AK.condD rfl (fun hc1=>?_) (fun hc1=>?_)
   ·rw [if_pos hc1] at hb
    refine AK.region ?_
    refine .mv rfl (.v (.fieldAddr fd24_2 rfl) (.v (.loadBox on22 rfl bsp rfl) ?_))
    refine AK.appendS 0 rfl sl22 el24 rfl (by decide) rfl rfl rfl (RdS.arg (hkr x.1 (by omega))) (one'_ecs _ _ (all_getD fun j hj=>hsl2 x.1 (by omega) j (by rw [← h3 x.1 (by omega)];exact hj))) (by omega) (by omega) trivial rfl (fun av21=>?_)
    refine AK.shape 0 rfl (fun sav=>?_)
    refine .as rfl (.nil (.block_normal ?_))
    refine AK.then_ (hK8 _ ?_)
    refine AK.region ?_
    refine .v (.add rfl rfl (by omega)) ?_
    refine .mv rfl (.nil ?_)
    first | refine AK.then_ (hK5 _ _ ((x.1+1,av21)) ⟨by dsimp only;omega,sav⟩ (by dsimp only;omega) (slr) (fun w hw=>by dsimp only;rw [take_snocD default ks x.1 (by omega),take_snocD undef ss x.1 (by omega),take_snocD [] tss x.1 (by omega),flatE_snoc,flatS_snoc op _ _ _ _ _ _ (by simp;omega) (by simp;omega),xcs_append _ _ _ _ (flatT_len hl htl h3 x.1),List.length_append,if_pos hc1,if_pos hc1];exact hw.pick [0] (by decide) rfl rfl)) | refine AK.then_ (hK5 _ _ ((x.1+1,av25)) ⟨by dsimp only;omega,hsl25⟩ (by dsimp only;omega) (slr) (fun w hw=>by dsimp only;rw [take_snocD default ks x.1 (by omega),take_snocD undef ss x.1 (by omega),take_snocD [] tss x.1 (by omega),flatE_snoc,flatS_snoc op _ _ _ _ _ _ (by simp;omega) (by simp;omega),xcs_append _ _ _ _ (flatT_len hl htl h3 x.1),List.length_append,if_neg hc1,if_neg hc1];exact hw.pick [0] (by decide) rfl rfl))
   ·rw [if_neg hc1,List.length_singleton] at hb
    refine AK.region ?_
    refine .mv rfl (.v (.loadBoxG ag24 rfl bsp rfl rfl) ?_)
    refine AK.append1 0 rfl sl22 el24 rfl (by decide) rfl (by intro k hk;cases hk;rfl) rfl (one'_cons rfl (one'_cons rfl (one'_cons (IsSl.one sk) one'_nil))) (by omega) (by omega) (by decide) rfl rfl (fun av25 _ hsl25=>?_)
    refine .as rfl (.nil (.block_normal ?_))
    refine AK.then_ (hK8 _ ?_)
    refine AK.region ?_
    refine .v (.add rfl rfl (by omega)) ?_
    refine .mv rfl (.nil ?_)
    first | refine AK.then_ (hK5 _ _ ((x.1+1,av21)) ⟨by dsimp only;omega,sav⟩ (by dsimp only;omega) (slr) (fun w hw=>by dsimp only;rw [take_snocD default ks x.1 (by omega),take_snocD undef ss x.1 (by omega),take_snocD [] tss x.1 (by omega),flatE_snoc,flatS_snoc op _ _ _ _ _ _ (by simp;omega) (by simp;omega),xcs_append _ _ _ _ (flatT_len hl htl h3 x.1),List.length_append,if_pos hc1,if_pos hc1];exact hw.pick [0] (by decide) rfl rfl)) | refine AK.then_ (hK5 _ _ ((x.1+1,av25)) ⟨by dsimp only;omega,hsl25⟩ (by dsimp only;omega) (slr) (fun w hw=>by dsimp only;rw [take_snocD default ks x.1 (by omega),take_snocD undef ss x.1 (by omega),take_snocD [] tss x.1 (by omega),flatE_snoc,flatS_snoc op _ _ _ _ _ _ (by simp;omega) (by simp;omega),xcs_append _ _ _ _ (flatT_len hl htl h3 x.1),List.length_append,if_neg hc1,if_neg hc1];exact hw.pick [0] (by decide) rfl rfl))
  ·refine .exit (.then_exit (.then_exit (.block_exit ?_)))
   refine AK.then_ (hK3 _ ?_)
   refine .sr fun _ hK11=>?_
   refine .mv rfl (.as rfl (.nt hK11 (.ret ?_)))
   refine AK.ret1 rfl rfl (fun w hw=>⟨_,_,?_,rfl,Ret.of (hw.pick [0] (by decide) rfl rfl)⟩)
   have e1:x.1=ks.length:=by omega
   rw [e1,List.take_length,List.take_of_length_le (by omega),List.take_of_length_le (by omega)]
   exact ⟨hg0.2,rfl⟩
set_option maxHeartbeats 800000 in
theorem s_delete (w:World) (F:Nat→Prop) (f:FuncId) (hco:CallOk Tryz.prog f) (p:Ex→Bool) (s:Value) (ks:List Ex) (ss:List Value) (hl:ss.length=ks.length) (hsl:∀ i,i<ks.length→IsSl (ss.getD i undef)) (hA:(row s 24 3 ks.length (xcs ks ss)).holds w F) (hf:∀ w',FrameX F w w'→∀ i,i<ks.length→CallS Tryz.prog f [.agg #[.int .i64 (ks.getD i default).op,.int .i64 (ks.getD i default).lt,ss.getD i undef]] w' (fun r o=>r = .bool (p (ks.getD i default))∧o=[])):CallM Tryz.prog 129 [s,.func (.func f) #[] #[]] w F (fun r A o=>∃ ss',IsSl r∧A=row r 24 3 (ks.filter (fun e=>!p e)).length (xcs (ks.filter (fun e=>!p e)) ss')∧o=[]∧PSub (ks.filter (fun e=>!p e)) ss' ks ss):=by
 have hsv:=row_sl hA
 have hm:=(row_rd hA).le
 refine specM_of Tryz.func129 rfl (leb rfl) hA ?_
 refine .sr fun _ hK1=>?_
 refine .as rfl (.nt hK1 ?_)
 refine .sr fun _ hK2=>?_
 refine .mv rfl (.mv rfl ?_)
 refine AK.call co78 rfl (fun w hw=>s_index w f hco p s ks ss hl hsl ((RdS.own 0 rfl w hw).mono fun b _ _=>⟨id,rfl⟩) (fun w' hfr i hi=>hf w' (hw.frame.step hfr (fun _ h _=>h.elim)) i hi)) trivial rfl ?_
 rintro r o ⟨rfl,rfl⟩
 obtain ⟨ia,ib,ic⟩:=idxE_any p ks
 refine .as rfl (.nt hK2 ?_)
 refine .seq fun _ hK3=>?_
 refine .sr fun _ hK4=>?_
 refine .mv rfl (.v (.eql rfl rfl) (.nt hK4 ?_))
 refine AK.condD rfl (fun hc0=>?_) (fun hc0=>?_)
 ·refine .sr fun _ hK5=>?_
  refine .mv rfl (.as rfl (.nt hK5 (.ret (.then_ret ?_))))
  refine AK.ret1 rfl rfl (fun w hw=>⟨_,_,_,?_,rfl,Ret.of (hw.pick [0] (by decide) rfl rfl)⟩)
  have hany:ks.any p=false:=by
   cases h:ks.any p with
   | false=>rfl
   | true=>have:=ia.1 h;omega
  rw [filter_not hany]
  exact ⟨ss,hsv,rfl,rfl,PSub.rfl hl⟩
 ·have hany:ks.any p=true:=ia.2 (by omega)
  have hix:idxE p ks=((ks.findIdx p:Nat):Int):=by unfold idxE;rw [if_pos hany]
  rw [hix] at ib ic hc0 ⊢
  have hst:=DelI.start (p:=p) hl hany
  have hilt:=(findIdx_first hany).1
  refine .skip ?_
  refine AK.then_ (hK3 _ ?_)
  refine .seq fun _ hK6=>?_
  refine .sr fun _ hK7=>?_
  refine .mv rfl ?_
  refine .v (.add rfl rfl (by omega)) ?_
  refine .as rfl (.nt hK7 (.block ?_))
  refine AK.loopK (X:=Nat × Nat × List Ex × List Value) [(0,_),(1,_)] (fun x=>[(6,.int .i64 (x.1:Int)),(5,.int .i64 (x.2.1:Int))]) (fun x=>[row s 24 3 ks.length (xcs x.2.2.1 x.2.2.2)]) (fun x=>DelI (fun e=>!p e) ks ss x.1 x.2.1 x.2.2.1 x.2.2.2) (fun x=>ks.length - x.1) ((ks.findIdx p+1,ks.findIdx p,ks,ss)) slr ?_ ?_ ?_ ?_
  ·exact hst
  ·exact .cons (slI rfl (by omega)) (slr)
  ·exact fun w hw=>hw
  ·intro x hg0 _ hK8
   refine .seq fun _ hK9=>?_
   refine .sr fun _ hK10=>?_
   refine .mv rfl (.mv rfl (.v (.lenR sl22 rfl rdp) (.v (.lss rfl rfl) (.nt hK10 ?_))))
   refine AK.condD rfl (fun hc1=>?_) (fun hc1=>?_)
   ·have hjlt:x.1<ks.length:=by omega
    have hil:=hg0.lt
    have hkl:=hg0.len
    have hksl:=hg0.slen
    have sk:IsSl (x.2.2.2.getD x.1 undef):=by rw [(hg0.suf x.1 (Nat.le_refl _)).2];exact hsl x.1 hjlt
    refine .skip ?_
    refine AK.then_ (hK9 _ ?_)
    refine .seq fun _ hK11=>?_
    refine .block ?_
    refine .sr fun _ hK12=>?_
    refine .mv rfl (.mv rfl ?_)
    first | refine .v (.iN sl22 rfl rfl) ?_ | refine .v (.iK sl22 rfl rfl) ?_
    refine .v (.loadE ag24 rfl rdp (by assumption) (by omega) (by omega)) ?_
    refine AK.alloc el24 rfl rfl trivial rfl (fun bx7=>?_)
    refine AK.storeBox 1 (us:=[.int .i64 (x.2.2.1.getD x.1 default).op,.int .i64 (x.2.2.1.getD x.1 default).lt,x.2.2.2.getD x.1 undef]) (cs':=[.int .i64 (x.2.2.1.getD x.1 default).op,.int .i64 (x.2.2.1.getD x.1 default).lt,x.2.2.2.getD x.1 undef]) rfl sz24 rfl rfl rfl rfl oneP (leb rfl) rfl trivial ?_
    refine .nt hK12 ?_
    refine .sr fun _ hK13=>?_
    refine .mv rfl (.v (.loadBoxG ag24 rfl bsp rfl rfl) ?_)
    refine AK.callV (us:=[]) (cs:=[]) hco rfl rfl (fun w hw=>(by have:=hf w hw.frame x.1 (by omega);have e:=hg0.suf x.1 (Nat.le_refl _);rw [← e.1,← e.2] at this;exact this)) trivial rfl ?_
    rintro r o ⟨rfl,rfl⟩
    refine .v (.not rfl) (.nt hK13 ?_)
    refine AK.condB rfl (fun hc2=>?_) (fun hc2=>?_)
    ·refine .sr fun _ hK14=>?_
     refine .mv rfl (.mv rfl (.v (.loadBoxG ag24 rfl bsp rfl rfl) ?_))
     first | refine .v (.iN sl22 rfl rfl) ?_ | refine .v (.iK sl22 rfl rfl) ?_
     refine AK.storeG 0 rfl sz24 rfl rfl rfl rfl (one'_cons rfl (one'_cons rfl (one'_cons (IsSl.one sk) one'_nil))) (by omega) (cs':=xcs (x.2.2.1.set x.2.1 (x.2.2.1.getD x.1 default)) (x.2.2.2.set x.2.1 (x.2.2.2.getD x.1 undef))) (xcs_set _ _ _ hksl (by omega) _ _) trivial ?_
     refine .nt hK14 ?_
     refine AK.region ?_
     refine .mv rfl ?_
     refine .v (.add rfl rfl (by omega)) ?_
     refine .as rfl (.nil (.block_normal ?_))
     refine AK.then_ (hK11 _ ?_)
     refine AK.region ?_
     refine .mv rfl ?_
     refine .v (.add rfl rfl (by omega)) ?_
     refine .as rfl (.nil ?_)
     refine AK.then_ (hK8 _ _ ((x.1+1,x.2.1+1,x.2.2.1.set x.2.1 (x.2.2.1.getD x.1 default),x.2.2.2.set x.2.1 (x.2.2.2.getD x.1 undef))) (hg0.keep hjlt (by have e:=(hg0.suf x.1 (Nat.le_refl _)).1;rw [e] at hc2;show (!p _)=_;rw [hc2];rfl)) (by dsimp only;omega) (slr) (fun w hw=>hw.pick [0] (by decide) rfl rfl))
    ·refine .skip (.block_normal ?_)
     refine AK.then_ (hK11 _ ?_)
     refine AK.region ?_
     refine .mv rfl ?_
     refine .v (.add rfl rfl (by omega)) ?_
     refine .as rfl (.nil ?_)
     refine AK.then_ (hK8 _ _ ((x.1+1,x.2.1,x.2.2.1,x.2.2.2)) (hg0.drop hjlt (by have e:=(hg0.suf x.1 (Nat.le_refl _)).1;rw [e] at hc2;show (!p _)=_;rw [hc2];rfl)) (by dsimp only;omega) (slr) (fun w hw=>hw.pick [0] (by decide) rfl rfl))
   ·have hil:=hg0.lt
    have hle:=hg0.le
    have hkl:=hg0.len
    have hksl:=hg0.slen
    refine .exit (.then_exit (.then_exit (.block_exit ?_)))
    refine AK.then_ (hK6 _ ?_)
    refine .sr fun _ hK15=>?_
    refine .mv rfl (.mv rfl ?_)
    refine .v (.sliceFr (CutS.row 0 rfl) sl22 rfl rfl (by omega)) ?_
    refine AK.clearE 0 (ks:=x.2.2.1) (ss:=x.2.2.2) rfl sl22 el24 rfl (by omega) hksl (by omega) trivial (fun cs hcs=>?_)
    refine .nt hK15 ?_
    refine .sr fun _ hK16=>?_
    refine .mv rfl (.mv rfl ?_)
    refine .v (.sliceTo 0 rfl sl22 rfl rfl (by omega)) ?_
    refine .as rfl (.nt hK16 (.ret ?_))
    refine AK.reslice 0 x.2.1 rfl (by omega) ?_
    refine AK.ret1 rfl rfl (fun w hw=>⟨_,_,_,?_,rfl,Ret.of (hw.pick [0] (by decide) rfl rfl)⟩)
    have hx1:x.1=ks.length:=by omega
    rw [hx1] at hg0
    obtain ⟨ps,e1,e2⟩:=hg0.psub
    have hcs':cs.take (x.2.1 * 3)=xcs (x.2.2.1.take x.2.1) (x.2.2.2.take x.2.1):=hcs
    rw [e1] at hcs'
    refine ⟨x.2.2.2.take x.2.1,slTo_sl _ hsv,?_,rfl,ps⟩
    rw [hcs',← e2]
    rfl
theorem s_collect (w:World) (op:Int) (s:Value) (ks:List Ex) (ss:List Value) (hl:ss.length=ks.length) (hr:Rd (fun b=>¬ (fun _=>False) b) w s 3 ks.length (xcs ks ss)) (nn:Ex) (ns:Value) (hsl:∀ i,i<ks.length→IsSl (ss.getD i undef)) (hns:IsSl ns):CallS Tryz.prog 194 [.int .i64 op,s,.agg #[.int .i64 nn.op,.int .i64 nn.lt,ns]] w (fun r o=>∃ sr,r = .agg #[.int .i64 (collectE op ks nn).op,.int .i64 (collectE op ks nn).lt,sr]∧IsSl sr∧o=[]∧((ks=[]∧sr=ns)∨(ks.length=1∧sr=ss.getD 0 undef)∨(2≤ks.length∧sr=s))):=by
 have hm:=hr.le
 have hss:=Rd.sl hr
 refine spec_of Tryz.func194 rfl (leb rfl) ?_
 refine .sr fun _ hK1=>?_
 refine AK.box_ (E:=24) (cs:=[.int .i64 nn.op,.int .i64 nn.lt,ns]) rfl rfl rfl trivial rfl (fun bx5=>?_)
 refine AK.alloc el24 rfl rfl trivial rfl (fun bx6=>?_)
 refine .nt hK1 ?_
 refine .seq fun _ hK2=>?_
 refine .sr fun _ hK3=>?_
 refine .mv rfl (.v (.lenR sl22 rfl rdp) (.nt hK3 (.block ?_)))
 refine .sr fun _ hK4=>?_
 refine .v (.eql rfl rfl) (.as rfl (.nt hK4 ?_))
 refine AK.condD rfl (fun hc0=>?_) (fun hc0=>?_)
 ·refine .sr fun _ hK5=>?_
  refine .v (.loadBoxG ag24 rfl bsp rfl rfl) ?_
  refine AK.storeBox 1 (us:=[.int .i64 nn.op,.int .i64 nn.lt,ns]) (cs':=[.int .i64 nn.op,.int .i64 nn.lt,ns]) rfl sz24 rfl rfl rfl rfl oneP (leb rfl) rfl trivial ?_
  refine .nt hK5 (.ret (.block_ret (.then_ret ?_)))
  refine AK.retG [.cell 6 24] rfl (.cons (.cell ag24 rfl bsp rfl rfl) (.nil)) (fun w hw=>⟨_,_,?_,rfl,Ret.of (hw.pick [] (by decide) rfl rfl)⟩)
  have hk0:ks=[]:=List.eq_nil_of_length_eq_zero (by omega)
  subst hk0
  exact ⟨ns,rfl,hns,rfl,.inl ⟨rfl,rfl⟩⟩
 ·refine .sr fun _ hK6=>?_
  refine .v (.eql rfl rfl) (.as rfl (.nt hK6 ?_))
  refine AK.condD rfl (fun hc1=>?_) (fun hc1=>?_)
  ·have hk1:ks.length=1:=by omega
   have sk:=hsl 0 (by omega)
   refine .sr fun _ hK7=>?_
   refine .mv rfl ?_
   refine .v (.idxN (k:=0) sl22 rfl rfl rdp (by decide) (by omega)) ?_
   refine .v (.loadE ag24 rfl rdp (by assumption) rfl (by omega)) ?_
   refine AK.storeBox 1 (us:=[.int .i64 (ks.getD 0 default).op,.int .i64 (ks.getD 0 default).lt,ss.getD 0 undef]) (cs':=[.int .i64 (ks.getD 0 default).op,.int .i64 (ks.getD 0 default).lt,ss.getD 0 undef]) rfl sz24 rfl rfl rfl rfl oneP (leb rfl) rfl trivial ?_
   refine .nt hK7 (.ret (.block_ret (.then_ret ?_)))
   refine AK.retG [.cell 6 24] rfl (.cons (.cell ag24 rfl bsp rfl rfl) (.nil)) (fun w hw=>⟨_,_,?_,rfl,Ret.of (hw.pick [] (by decide) rfl rfl)⟩)
   obtain ⟨k,rfl⟩:∃ k,ks=[k]:=List.length_eq_one_iff.1 hk1
   exact ⟨_,rfl,sk,rfl,.inr (.inl ⟨rfl,rfl⟩)⟩
  ·refine .skip (.block_normal ?_)
   refine AK.then_ (hK2 _ ?_)
   refine .sr fun _ hK8=>?_
   refine .mv rfl (.mv rfl ?_)
   refine .v (.build (parts:=[(0,.tmp 17),(2,.tmp 18)]) (cs:=#[.int .i64 op,.int .i64 0,s]) rfl (by obtain ⟨_,_,_,rfl⟩:=hss;kernel_rfl)) ?_
   refine AK.storeBox 1 (us:=[.int .i64 op,.int .i64 0,s]) (cs':=[.int .i64 op,.int .i64 0,s]) rfl sz24 rfl rfl rfl rfl oneP (leb rfl) rfl trivial ?_
   refine .nt hK8 (.ret ?_)
   refine AK.retG [.cell 6 24] rfl (.cons (.cell ag24 rfl bsp rfl rfl) (.nil)) (fun w hw=>⟨_,_,?_,rfl,Ret.of (hw.pick [] (by decide) rfl rfl)⟩)
   match ks,hc0,hc1 with
   | [],h,_=>simp at h
   | [k],_,h=>simp at h
   | a :: b :: l,_,_=>exact ⟨s,rfl,hss,rfl,.inr (.inr ⟨by simp,rfl⟩)⟩
end Go.Proofs.YtbibnpdnmmgacaaGreatDoor
namespace Go.Sx
open Go.RowKit
theorem ret_none (w:World):Ret (fun _=>False) w w []:=⟨FrameX.refl _ w,_,HeapAt.nil w,fun _ _ h=>h.elim⟩
theorem callS_pureT {P:Program} {f:FuncId} {vs:List Value} {w:World} {v:Value} {φ:Value→List Asn→Prop} (h:Calls P f vs.toArray w fun e w'=>e = .returned v∧w'=w) (hφ:φ v []):CallS P f vs w φ:=
 h.mono fun e w' h'=>⟨v,[],hφ,h'.1,by rw [h'.2];exact ret_none w⟩
theorem collect_deep {l:List Itm} {op:Int} {ks:List Ex} {ss:List Value} {s ns sr:Value} {nn:Ex} (hk:∀ k,k<ks.length→Itm.deep (ss.getD k undef) (ks.getD k default).kids∈l) (hs:Itm.deep s ks∈l) (hn:Itm.deep ns nn.kids∈l)
  (h:(ks=[]∧sr=ns)∨(ks.length=1∧sr=ss.getD 0 undef)∨(2≤ks.length∧sr=s)):Itm.deep sr (collectE op ks nn).kids∈l:=by
 rcases h with ⟨rfl,rfl⟩ | ⟨h1,rfl⟩ | ⟨h1,rfl⟩
 ·exact hn
 ·obtain ⟨k,rfl⟩:=List.length_eq_one_iff.1 h1
  exact hk 0 (by simp)
 ·match ks,h1,hs with
  | a :: b :: l',_,hs=>exact hs
theorem one_deep {l:List Itm} {s:Value} {k:Ex} (h:Itm.deep s k.kids∈l):∀ i,i < [k].length→Itm.deep ([s].getD i undef) ([k].getD i default).kids∈l:=fun i hi=>by
 have:i=0:=by simpa using hi
 subst this;exact h
theorem bind_some {α β:Type} {x:Option α} {f:α→Option β} {b:β} (h:x.bind f=some b):∃ a,x=some a∧f a=some b:=by
 cases x with
 | none=>cases h
 | some a=>exact ⟨a,rfl,h⟩
theorem HW.kidR {C:Cx} {own:List Asn} {B:Bs} {l:List Itm} {w:World} {s:Value} {ks:List Ex} (hw:HW C own w) (hB:BsOk B C.W0 C.S) (i:Nat) (hi:own[i]? = some (forest B l)) (hx:Itm.deep s ks∈l):RdK (cellR (fun _=>False) w) s ks:=HW.itm hB i hi hx hw
theorem HeapAt.kidR {C:Cx} {own:List Asn} {B:Bs} {l:List Itm} {w:World} {Fs:Nat→Nat→Prop} {s:Value} {ks:List Ex} (hh:HeapAt own Fs w) (hB:BsOk B C.W0 C.S) (i j:Nat) (hij:i ≠ j) (hi:own[i]? = some (forest B l)) (hx:Itm.deep s ks∈l) (hfr:FrameX C.S C.W0 w) (hal:∀ k b,Fs k b→C.W0.heap.size≤b∨C.S b):RdK (cellR (Fs j) w) s ks:=HeapAt.itm hB i j hij hi hx hh hfr hal
end Go.Sx
namespace Go.Proofs
open Go.Shelf
def Tryz.lays125_ren:Go.Shelf.Ren:=⟨fun | 125=>110 | 128=>163 | 129=>164 | n=>n,fun | 46=>130 | 3=>3 | 51=>206 | 53=>42 | 4=>4 | 5=>5 | 9=>9 | n=>n,fun | n=>n⟩
theorem Tryz.lays125:Go.Proofs.Lays.n125 Tryz.prog Tryz.lays125_ren:={
 mixed:=by kernel_rfl
 f125:=Tryz.func110.trans (congrArg some (by kernel_rfl))
 f128:=Tryz.func163.trans (congrArg some (by kernel_rfl))
 f129:=Tryz.func164.trans (congrArg some (by kernel_rfl))
 t3:=Tryz.underlying3
 a3:=Tryz.isAgg3
 z3:=Tryz.sizeOf3
 v3:=Tryz.zeroValue3
 t4:=Tryz.underlying4
 a4:=Tryz.isAgg4
 z4:=Tryz.sizeOf4
 v4:=Tryz.zeroValue4
 t5:=Tryz.underlying5
 a5:=Tryz.isAgg5
 z5:=Tryz.sizeOf5
 v5:=Tryz.zeroValue5
 t9:=Tryz.underlying9
 a9:=Tryz.isAgg9
 z9:=Tryz.sizeOf9
 v9:=Tryz.zeroValue9
 t46:=Tryz.underlying130
 a46:=Tryz.isAgg130
 z46:=Tryz.sizeOf130
 v46:=Tryz.zeroValue130
 t51:=Tryz.underlying206
 a51:=Tryz.isAgg206
 z51:=Tryz.sizeOf206
 v51:=Tryz.zeroValue206
 t53:=Tryz.underlying42
 a53:=Tryz.isAgg42
 z53:=Tryz.sizeOf42
 v53:=Tryz.zeroValue42 }
theorem Tryz.bits_Len (x:Int) (w:World) (h0:0≤x) (h1:x≤18446744073709551615) :
 Calls Tryz.prog 110 #[.int .u64 x] w fun e w'=>e = .returned (.int .i64 (Lib.bitLen x.toNat))∧w'=w:=Any.bits_Len Tryz.lays125 x w h0 h1
end Go.Proofs
namespace Go.Sx
structure Frm where
 us:List Ex
 as_:List Ex
 cs:List Ex
 n:Nat
 at_:Option Ex
def nots:Nat→Ex→Ex
 | 0,e=>e
 | n+1,e=>.mk 8 0 [nots n e]
def mkN (op:Int):List Ex→Ex
 | [e]=>e
 | l=>.mk op 0 l
def Frm.fl (f:Frm):Frm:=match f.at_ with
 | none=>f
 | some e=>⟨f.us,f.as_,f.cs++[nots f.n e],0,none⟩
def Frm.flc (f:Frm):Frm:=⟨f.us,f.as_++[mkN 5 f.fl.cs],[],0,none⟩
def Frm.flu (f:Frm):Frm:=⟨f.us++[mkN 6 f.flc.as_],[],[],0,none⟩
def Frm.fin (f:Frm):Ex:=mkN 4 f.flu.us
def frm0:Frm:=⟨[],[],[],0,none⟩
def Frm.put (f:Frm) (e:Ex):Frm:=⟨f.us,f.as_,f.cs,f.n,some e⟩
def stp (st:List Frm) (c:UInt8):List Frm:=match st with
 | []=>[]
 | f :: r=>
  if c=48 then f.fl.put emptyE :: r
  else if c=49 then f.fl.put unitE :: r
  else if c=33 then ⟨f.fl.us,f.fl.as_,f.fl.cs,f.fl.n+1,none⟩ :: r
  else if c=42 then ⟨f.us,f.as_,f.cs,f.n,f.at_.map fun e=>.mk 7 0 [e]⟩ :: r
  else if c=124 then f.flu :: r
  else if c=38 then f.flc :: r
  else if c=40 then frm0 :: f.fl :: r
  else if c=41 then match r with
   | []=>[]
   | g :: r'=>g.put f.fin :: r'
  else f.fl.put (.mk 3 ((c.toNat:Int) - 97) []) :: r
theorem fl_us (f:Frm):f.fl.us=f.us:=by unfold Frm.fl;split <;> rfl
theorem fl_as (f:Frm):f.fl.as_=f.as_:=by unfold Frm.fl;split <;> rfl
def partE (least:Int) (e:Ex):List UInt8:=if least≤levE e.op then wrE e else 40 :: (wrE e++[41])
def rdW (st:List Frm) (l:List UInt8):List Frm:=l.foldl stp st
theorem rdW_app (st:List Frm) (a b:List UInt8):rdW st (a++b)=rdW (rdW st a) b:=List.foldl_append ..
theorem rdW_cons (st:List Frm) (c:UInt8) (b:List UInt8):rdW st (c :: b)=rdW (stp st c) b:=rfl
def P5 (e:Ex):Prop:=∀ f r,rdW (f :: r) (partE 5 e)=f.fl.put e :: r
def P4 (e:Ex):Prop:=∃ m c,nots m c=e∧∀ f r,rdW (f :: r) (partE 4 e)=⟨f.fl.us,f.fl.as_,f.fl.cs,f.fl.n+m,some c⟩ :: r
def P3 (e:Ex):Prop:=∀ us as_ r,∃ f':Frm,rdW (⟨us,as_,[],0,none⟩ :: r) (partE 3 e)=f' :: r∧f'.us=us∧f'.as_=as_∧mkN 5 f'.fl.cs=e
def P2 (e:Ex):Prop:=∀ us r,∃ f':Frm,rdW (⟨us,[],[],0,none⟩ :: r) (partE 2 e)=f' :: r∧f'.us=us∧mkN 6 f'.flc.as_=e
def P1 (e:Ex):Prop:=∀ r,∃ f':Frm,rdW (frm0 :: r) (wrE e)=f' :: r∧f'.fin=e
theorem p4_of {e:Ex} (h:P5 e) (he:partE 4 e=partE 5 e):P4 e:=⟨0,e,rfl,fun f r=>by rw [he,h];rfl⟩
theorem p3_of {e:Ex} (h:P4 e) (he:partE 3 e=partE 4 e):P3 e:=fun us as_ r=>by
 obtain ⟨m,c,h1,h2⟩:=h
 refine ⟨_,by rw [he,h2],rfl,rfl,?_⟩
 show mkN 5 ([]++[nots (0+m) c])=e
 rw [Nat.zero_add,h1];rfl
theorem p2_of {e:Ex} (h:P3 e) (he:partE 2 e=partE 3 e):P2 e:=fun us r=>by
 obtain ⟨f',h1,h2,h3,h4⟩:=h us [] r
 refine ⟨f',by rw [he,h1],h2,?_⟩
 show mkN 6 (f'.as_++[mkN 5 f'.fl.cs])=e
 rw [h3,h4];rfl
theorem p1_of {e:Ex} (h:P2 e) (he:wrE e=partE 2 e):P1 e:=fun r=>by
 obtain ⟨f',h1,h2,h3⟩:=h [] r
 refine ⟨f',by rw [he];exact h1,?_⟩
 show mkN 4 (f'.us++[mkN 6 f'.flc.as_])=e
 rw [h2,h3];rfl
theorem p5_paren {e:Ex} (h:P1 e) (he:levE e.op<5):P5 e:=fun f r=>by
 unfold partE
 rw [if_neg (by omega),rdW_cons,rdW_app]
 have e1:stp (f :: r) 40=frm0 :: f.fl :: r:=rfl
 obtain ⟨f',h1,h2⟩:=h (f.fl :: r)
 rw [e1,h1]
 show f.fl.put f'.fin :: r=_
 rw [h2]
theorem part_hi {e:Ex} {a b:Int} (ha:a≤levE e.op) (hb:b≤levE e.op):partE a e=partE b e:=by unfold partE;rw [if_pos ha,if_pos hb]
theorem part_lo {e:Ex} {a b:Int} (ha:levE e.op<a) (hb:levE e.op<b):partE a e=partE b e:=by unfold partE;rw [if_neg (by omega),if_neg (by omega)]
theorem cat_rd:∀ (ks:List Ex),(∀ k∈ks,P4 k)→∀ (b:Bool) (f:Frm) (r:List Frm),f.fl.n=0→∃ f':Frm,rdW (f :: r) (wrL [] 4 b ks)=f' :: r∧f'.us=f.us∧f'.as_=f.as_∧f'.fl.cs=f.fl.cs++ks∧f'.fl.n=0
 | [],_,b,f,r,h=>⟨f,by simp [wrL,rdW],rfl,rfl,by simp,h⟩
 | k :: ks,hk,b,f,r,h=>by
  obtain ⟨m,c,h1,h2⟩:=hk k List.mem_cons_self
  have e1:wrL [] 4 b (k :: ks)=partE 4 k++wrL [] 4 true ks:=by simp [wrL,partE]
  rw [e1,rdW_app,h2]
  obtain ⟨f',g1,g2,g3,g4,g5⟩:=cat_rd ks (fun q hq=>hk q (List.mem_cons_of_mem _ hq)) true ⟨f.fl.us,f.fl.as_,f.fl.cs,f.fl.n+m,some c⟩ r rfl
  refine ⟨f',g1,by rw [g2];exact fl_us f,by rw [g3];exact fl_as f,?_,g5⟩
  rw [g4]
  show (f.fl.cs++[nots (f.fl.n+m) c])++ks=_
  rw [h,Nat.zero_add,h1];simp
theorem and_rd:∀ (ks:List Ex),(∀ k∈ks,P3 k)→∀ (f:Frm) (r:List Frm) (us done:List Ex),f.us=us→f.flc.as_=done→∃ f':Frm,rdW (f :: r) (wrL [38] 3 true ks)=f' :: r∧f'.us=us∧f'.flc.as_=done++ks
 | [],_,f,r,us,done,h,hd=>⟨f,by simp [wrL,rdW],h,by simpa using hd⟩
 | k :: ks,hk,f,r,us,done,h,hd=>by
  have e1:wrL [38] 3 true (k :: ks)=38 :: (partE 3 k++wrL [38] 3 true ks):=by simp [wrL,partE]
  have e2:stp (f :: r) 38=f.flc :: r:=rfl
  have e3:f.flc=⟨us,done,[],0,none⟩:=by
   rw [← hd,← h];rfl
  obtain ⟨g,h1,h2,h3,h4⟩:=hk k List.mem_cons_self us done r
  rw [e1,rdW_cons,rdW_app,e2,e3,h1]
  obtain ⟨f',g1,g2,g3⟩:=and_rd ks (fun q hq=>hk q (List.mem_cons_of_mem _ hq)) g r us (done++[k]) h2 (by show g.as_++[mkN 5 g.fl.cs]=_;rw [h3,h4])
  exact ⟨f',g1,g2,by rw [g3];simp⟩
theorem or_rd:∀ (ks:List Ex),(∀ k∈ks,P2 k)→∀ (f:Frm) (r:List Frm) (done:List Ex),f.flu.us=done→∃ f':Frm,rdW (f :: r) (wrL [124] 2 true ks)=f' :: r∧f'.flu.us=done++ks
 | [],_,f,r,done,hd=>⟨f,by simp [wrL,rdW],by simpa using hd⟩
 | k :: ks,hk,f,r,done,hd=>by
  have e1:wrL [124] 2 true (k :: ks)=124 :: (partE 2 k++wrL [124] 2 true ks):=by simp [wrL,partE]
  have e2:stp (f :: r) 124=f.flu :: r:=rfl
  have e3:f.flu=⟨done,[],[],0,none⟩:=by rw [← hd];rfl
  obtain ⟨g,h1,h2,h3⟩:=hk k List.mem_cons_self done r
  rw [e1,rdW_cons,rdW_app,e2,e3,h1]
  obtain ⟨f',g1,g2⟩:=or_rd ks (fun q hq=>hk q (List.mem_cons_of_mem _ hq)) g r (done++[k]) (by show g.us++[mkN 6 g.flc.as_]=_;rw [h2,h3])
  exact ⟨f',g1,by rw [g2];simp⟩
theorem mkN_two {op:Int} {ks:List Ex} (h:2≤ks.length):mkN op ks = .mk op 0 ks:=by
 match ks,h with
 | a :: b :: l,_=>rfl
structure PAll (e:Ex):Prop where
 p5:P5 e
 p4:P4 e
 p3:P3 e
 p2:P2 e
 p1:P1 e
theorem pall5 {e:Ex} (h:P5 e) (hl:5≤levE e.op):PAll e:=by
 have h4:=p4_of h (part_hi (by omega) hl)
 have h3:=p3_of h4 (part_hi (by omega) (by omega))
 have h2:=p2_of h3 (part_hi (by omega) (by omega))
 exact ⟨h,h4,h3,h2,p1_of h2 (by unfold partE;rw [if_pos (by omega)])⟩
theorem letU {lt:Int} (h0:0≤lt) (h1:lt<6):∃ c:UInt8,97+UInt8.ofNat lt.toNat=c∧(c.toNat:Int) - 97=lt∧c ≠ 48∧c ≠ 49∧c ≠ 33∧c ≠ 42∧c ≠ 124∧c ≠ 38∧c ≠ 40∧c ≠ 41:=by
 obtain ⟨n,rfl⟩:=Int.eq_ofNat_of_zero_le h0
 have:n=0∨n=1∨n=2∨n=3∨n=4∨n=5:=by omega
 rcases this with rfl | rfl | rfl | rfl | rfl | rfl <;> exact ⟨_,rfl,by decide⟩
theorem wfE_mk (n op lt:Int) (ks:List Ex):wfE n (.mk op lt ks)=if op=3 then ks.length == 0 && decide (0≤lt) && decide (lt<n)
 else if lt ≠ 0 then false
 else if op=1∨op=2 then ks.length == 0
 else if op=4∨op=5∨op=6 then decide (2≤ks.length) && ks.all (wfE n)
 else if op=7∨op=8 then ks.length == 1 && ks.all (wfE n) else false:=by simp only [wfE,wfL_all]
theorem wf_cases {n op lt:Int} {ks:List Ex} (h:wfE n (.mk op lt ks)=true) :
  (op=3∧ks=[]∧0≤lt∧lt<n)∨(lt=0∧(((op=1∨op=2)∧ks=[])∨((op=4∨op=5∨op=6)∧2≤ks.length∧∀ k∈ks,wfE n k=true)∨((op=7∨op=8)∧ks.length=1∧∀ k∈ks,wfE n k=true))):=by
 rw [wfE_mk] at h
 by_cases h3:op=3
 ·rw [if_pos h3] at h
  simp only [Bool.and_eq_true,beq_iff_eq,decide_eq_true_eq] at h
  exact .inl ⟨h3,List.eq_nil_of_length_eq_zero h.1.1,h.1.2,h.2⟩
 ·rw [if_neg h3] at h
  by_cases hlt:lt=0
  ·rw [if_neg (by simpa using hlt)] at h
   refine .inr ⟨hlt,?_⟩
   by_cases h1:op=1∨op=2
   ·rw [if_pos h1] at h;exact .inl ⟨h1,List.eq_nil_of_length_eq_zero (by simpa using h)⟩
   ·rw [if_neg h1] at h
    by_cases h2:op=4∨op=5∨op=6
    ·rw [if_pos h2] at h
     simp only [Bool.and_eq_true,decide_eq_true_eq,List.all_eq_true] at h
     exact .inr (.inl ⟨h2,h.1,h.2⟩)
    ·rw [if_neg h2] at h
     by_cases h4:op=7∨op=8
     ·rw [if_pos h4] at h
      simp only [Bool.and_eq_true,beq_iff_eq,List.all_eq_true] at h
      exact .inr (.inr ⟨h4,h.1,h.2⟩)
     ·rw [if_neg h4] at h;cases h
  ·rw [if_pos hlt] at h;cases h
theorem pall (e:Ex):wfE 6 e=true→PAll e:=by
 induction e using Ex.ind with
 | _ e ih=>
  intro hw
  obtain ⟨op,lt,ks⟩:=e
  have hkid:∀ k∈ks,wfE 6 k=true→PAll k:=fun k hk h=>by
   obtain ⟨i,hi,rfl⟩:=mem_getD default hk
   exact ih i hi h
  rcases wf_cases hw with ⟨rfl,rfl,h0,h1⟩ | ⟨rfl,hw2⟩
  ·obtain ⟨c,hc,hn,g1,g2,g3,g4,g5,g6,g7,g8⟩:=letU h0 h1
   refine pall5 (fun f r=>?_) (by show (5:Int)≤levE 3;decide)
   have e1:partE 5 (.mk 3 lt [])=[c]:=by
    unfold partE;rw [if_pos (by show (5:Int)≤levE 3;decide)];rw [← hc];rfl
   rw [e1]
   show stp (f :: r) c=_
   unfold stp
   simp only [g1,g2,g3,g4,g5,g6,g7,g8,if_false,hn]
  ·rcases hw2 with ⟨h12,rfl⟩ | ⟨h456,hlen,hall⟩ | ⟨h78,hlen,hall⟩
   ·rcases h12 with rfl | rfl
    ·exact pall5 (fun f r=>rfl) (by decide)
    ·exact pall5 (fun f r=>rfl) (by decide)
   ·have hP:∀ k∈ks,PAll k:=fun k hk=>hkid k hk (hall k hk)
    rcases h456 with rfl | rfl | rfl
    ·have h1:P1 (.mk 4 0 ks):=fun r=>by
      match ks,hlen,hP with
      | k :: ks,hlen,hP=>
       have e1:wrE (.mk 4 0 (k :: ks))=partE 2 k++wrL [124] 2 true ks:=by simp [wrE,wrL,partE]
       obtain ⟨g,g1,g2,g3⟩:=(hP k List.mem_cons_self).p2 [] r
       rw [e1,rdW_app]
       have e2:rdW (frm0 :: r) (partE 2 k)=g :: r:=g1
       rw [e2]
       obtain ⟨f',q1,q2⟩:=or_rd ks (fun q hq=>(hP q (List.mem_cons_of_mem _ hq)).p2) g r [k] (by show g.us++[mkN 6 g.flc.as_]=_;rw [g2,g3];rfl)
       refine ⟨f',q1,?_⟩
       show mkN 4 f'.flu.us=_
       rw [q2];exact mkN_two hlen
     have h5:=p5_paren h1 (by show levE 4<5;decide)
     have h4:=p4_of h5 (part_lo (by show levE 4<4;decide) (by show levE 4<5;decide))
     have h3':=p3_of h4 (part_lo (by show levE 4<3;decide) (by show levE 4<4;decide))
     have h2:=p2_of h3' (part_lo (by show levE 4<2;decide) (by show levE 4<3;decide))
     exact ⟨h5,h4,h3',h2,h1⟩
    ·have h3':P3 (.mk 5 0 ks):=fun us as_ r=>by
      have e1:partE 3 (.mk 5 0 ks)=wrL [] 4 false ks:=by unfold partE;rw [if_pos (by show (3:Int)≤levE 5;decide)];simp [wrE]
      rw [e1]
      obtain ⟨f',g1,g2,g3,g4,g5⟩:=cat_rd ks (fun k hk=>(hP k hk).p4) false ⟨us,as_,[],0,none⟩ r rfl
      refine ⟨f',g1,g2,g3,?_⟩
      rw [g4]
      show mkN 5 ([]++ks)=_
      rw [List.nil_append];exact mkN_two hlen
     have h2:=p2_of h3' (part_hi (by show (2:Int)≤levE 5;decide) (by show (3:Int)≤levE 5;decide))
     have h1:=p1_of h2 (by unfold partE;rw [if_pos (by show (2:Int)≤levE 5;decide)])
     have h5:=p5_paren h1 (by show levE 5<5;decide)
     exact ⟨h5,p4_of h5 (part_lo (by show levE 5<4;decide) (by show levE 5<5;decide)),h3',h2,h1⟩
    ·have h2:P2 (.mk 6 0 ks):=fun us r=>by
      match ks,hlen,hP with
      | k :: ks,hlen,hP=>
       have e1:partE 2 (.mk 6 0 (k :: ks))=partE 3 k++wrL [38] 3 true ks:=by
        show (if (2:Int)≤levE 6 then _ else _)=_
        rw [if_pos (by decide)];simp [wrE,wrL,partE]
       obtain ⟨g,g1,g2,g3,g4⟩:=(hP k List.mem_cons_self).p3 us [] r
       rw [e1,rdW_app,g1]
       obtain ⟨f',q1,q2,q3⟩:=and_rd ks (fun q hq=>(hP q (List.mem_cons_of_mem _ hq)).p3) g r us [k] g2 (by show g.as_++[mkN 5 g.fl.cs]=_;rw [g3,g4];rfl)
       refine ⟨f',q1,q2,?_⟩
       rw [q3];exact mkN_two hlen
     have h1:=p1_of h2 (by unfold partE;rw [if_pos (by show (2:Int)≤levE 6;decide)])
     have h5:=p5_paren h1 (by show levE 6<5;decide)
     have h4:=p4_of h5 (part_lo (by show levE 6<4;decide) (by show levE 6<5;decide))
     exact ⟨h5,h4,p3_of h4 (part_lo (by show levE 6<3;decide) (by show levE 6<4;decide)),h2,h1⟩
   ·obtain ⟨k,rfl⟩:=List.length_eq_one_iff.1 hlen
    have hk:=hkid k List.mem_cons_self (hall k List.mem_cons_self)
    rcases h78 with rfl | rfl
    ·refine pall5 (fun f r=>?_) (by show (5:Int)≤levE 7;decide)
     have e1:partE 5 (.mk 7 0 [k])=partE 5 k++[42]:=by
      show (if (5:Int)≤levE 7 then _ else _)=_
      rw [if_pos (by decide)];simp [wrE,wrL,partE]
     rw [e1,rdW_app,hk.p5]
     rfl
    ·have h4:P4 (.mk 8 0 [k]):=by
      obtain ⟨m,c,g1,g2⟩:=hk.p4
      refine ⟨m+1,c,by show Ex.mk 8 0 [nots m c]=_;rw [g1],fun f r=>?_⟩
      have e1:partE 4 (.mk 8 0 [k])=33 :: partE 4 k:=by
       show (if (4:Int)≤levE 8 then _ else _)=_
       rw [if_pos (by decide)];simp [wrE,wrL,partE]
      have e2:stp (f :: r) 33=⟨f.fl.us,f.fl.as_,f.fl.cs,f.fl.n+1,none⟩ :: r:=rfl
      rw [e1,rdW_cons,e2,g2]
      show (⟨f.fl.us,f.fl.as_,f.fl.cs,f.fl.n+1+m,some c⟩:Frm) :: r=_
      rw [show f.fl.n+1+m=f.fl.n+(m+1) by omega]
     have h3':=p3_of h4 (part_hi (by show (3:Int)≤levE 8;decide) (by show (4:Int)≤levE 8;decide))
     have h2:=p2_of h3' (part_hi (by show (2:Int)≤levE 8;decide) (by show (3:Int)≤levE 8;decide))
     have h1:=p1_of h2 (by unfold partE;rw [if_pos (by show (2:Int)≤levE 8;decide)])
     exact ⟨p5_paren h1 (by show levE 8<5;decide),h4,h3',h2,h1⟩
theorem wr_inj {a b:Ex} (ha:wfE 6 a=true) (hb:wfE 6 b=true) (h:wrE a=wrE b):a=b:=by
 obtain ⟨f,h1,h2⟩:=(pall a ha).p1 []
 obtain ⟨g,h3,h4⟩:=(pall b hb).p1 []
 rw [h,h3] at h1
 cases h1
 rw [← h2,← h4]
end Go.Sx
namespace Go.Sx
theorem cmpZ_eq {x y:Int}:cmpZ x y=0↔x=y:=by
 unfold cmpZ
 by_cases h:x<y
 ·simp [h];omega
 ·by_cases h2:y<x <;> simp [h,h2] <;> omega
theorem cmpZ_neg (x y:Int):cmpZ y x = - cmpZ x y:=by unfold cmpZ;split <;> split <;> (try split) <;> omega
theorem cmpZ_lt {x y:Int}:cmpZ x y<0↔x<y:=by
 unfold cmpZ
 by_cases h:x<y
 ·simp [h]
 ·by_cases h2:y<x <;> simp [h,h2] <;> omega
theorem cmpX_mk (o l:Int) (ks:List Ex) (e:Ex):cmpX (.mk o l ks) e=if o ≠ e.op then cmpZ o e.op else if l ≠ e.lt then cmpZ l e.lt else cmpXL ks e.kids:=by rw [cmpX]
theorem cmpX_eq (a b:Ex):cmpX a b=if a.op ≠ b.op then cmpZ a.op b.op else if a.lt ≠ b.lt then cmpZ a.lt b.lt else cmpXL a.kids b.kids:=by
 obtain ⟨o,l,ks⟩:=a;exact cmpX_mk o l ks b
theorem cmpX_mm (o l o' l':Int) (ks ks':List Ex):cmpX (.mk o l ks) (.mk o' l' ks')=if o ≠ o' then cmpZ o o' else if l ≠ l' then cmpZ l l' else cmpXL ks ks':=by rw [cmpX_mk];rfl
theorem Ex.indL {P:Ex→Prop} (h:∀ op lt ks,(∀ k∈ks,P k)→P (.mk op lt ks)) (e:Ex):P e:=by
 refine Ex.ind (fun e ih=>?_) e
 obtain ⟨op,lt,ks⟩:=e
 refine h op lt ks fun k hk=>?_
 obtain ⟨i,hi,rfl⟩:=mem_getD default hk
 exact ih i hi
theorem cmpX_zero (a:Ex):∀ b,cmpX a b=0→a=b:=by
 induction a using Ex.indL with
 | _ op lt ks ih=>
  intro b h
  obtain ⟨op',lt',ks'⟩:=b
  rw [cmpX_mm] at h
  split at h
  ·rename_i h1;exact absurd (cmpZ_eq.1 h) h1
  ·rename_i h1
   split at h
   ·rename_i h2;exact absurd (cmpZ_eq.1 h) h2
   ·rename_i h2
    have h1:op=op':=Classical.byContradiction h1
    have h2:lt=lt':=Classical.byContradiction h2
    subst h1 h2
    have key:∀ (ks ks':List Ex),(∀ k∈ks,∀ b,cmpX k b=0→k=b)→cmpXL ks ks'=0→ks=ks':=by
     intro ks
     induction ks with
     | nil=>intro ks' _ h;cases ks' with
      | nil=>rfl
      | cons a l=>simp [cmpXL] at h
     | cons a l ihl=>
      intro ks' hk h
      cases ks' with
      | nil=>simp [cmpXL] at h
      | cons b m=>
       rw [cmpXL] at h
       by_cases hab:cmpX a b ≠ 0
       ·rw [if_pos hab] at h;exact absurd h hab
       ·rw [if_neg hab] at h
        rw [hk a List.mem_cons_self b (Classical.byContradiction hab),ihl m (fun k hk'=>hk k (List.mem_cons_of_mem _ hk')) h]
    rw [key ks ks' ih h]
theorem cmpX_refl (a:Ex):cmpX a a=0:=by
 induction a using Ex.indL with
 | _ op lt ks ih=>
  rw [cmpX_mm]
  simp only [ne_eq,not_true,if_false]
  induction ks with
  | nil=>simp [cmpXL]
  | cons a l ihl=>
   rw [cmpXL,if_neg (by rw [ih a List.mem_cons_self];simp)]
   exact ihl (fun k hk=>ih k (List.mem_cons_of_mem _ hk))
theorem cmpX_neg (a:Ex):∀ b,cmpX b a = - cmpX a b:=by
 induction a using Ex.indL with
 | _ op lt ks ih=>
  intro b
  obtain ⟨op',lt',ks'⟩:=b
  rw [cmpX_mm,cmpX_mm]
  by_cases h1:op=op'
  ·subst h1
   by_cases h2:lt=lt'
   ·subst h2
    simp only [ne_eq,not_true,if_false]
    have key:∀ (ks ks':List Ex),(∀ k∈ks,∀ b,cmpX b k = - cmpX k b)→cmpXL ks' ks = - cmpXL ks ks':=by
     intro ks
     induction ks with
     | nil=>intro ks' _;cases ks' <;> simp [cmpXL]
     | cons a l ihl=>
      intro ks' hk
      cases ks' with
      | nil=>simp [cmpXL]
      | cons b m=>
       rw [cmpXL,cmpXL]
       have e:=hk a List.mem_cons_self b
       have e2:=ihl m (fun k hk'=>hk k (List.mem_cons_of_mem _ hk'))
       by_cases hab:cmpX a b=0
       ·rw [if_neg (by rw [e];simp [hab]),if_neg (by simp [hab])];exact e2
       ·rw [if_pos (by rw [e];omega),if_pos hab];exact e
    exact key ks ks' ih
   ·have e0:¬ (op ≠ op):=fun h=>h rfl
    rw [if_neg e0,if_neg e0,if_pos (Ne.symm h2),if_pos h2];exact cmpZ_neg _ _
  ·rw [if_pos (Ne.symm h1),if_pos h1];exact cmpZ_neg _ _
theorem cmpX_trans (a:Ex):∀ b c,cmpX a b<0→cmpX b c<0→cmpX a c<0:=by
 induction a using Ex.indL with
 | _ op lt ks ih=>
  intro b c
  obtain ⟨op1,lt1,ks1⟩:=b
  obtain ⟨op2,lt2,ks2⟩:=c
  rw [cmpX_mm,cmpX_mm,cmpX_mm]
  have key:∀ (ks ks1 ks2:List Ex),(∀ k∈ks,∀ b c,cmpX k b<0→cmpX b c<0→cmpX k c<0)→cmpXL ks ks1<0→cmpXL ks1 ks2<0→cmpXL ks ks2<0:=by
   intro ks
   induction ks with
   | nil=>
    intro ks1 ks2 _ h1 h2
    cases ks1 with
    | nil=>simp [cmpXL] at h1
    | cons a l=>cases ks2 with
     | nil=>simp [cmpXL] at h2
     | cons b m=>simp [cmpXL]
   | cons a l ihl=>
    intro ks1 ks2 hk h1 h2
    cases ks1 with
    | nil=>simp [cmpXL] at h1
    | cons b m=>cases ks2 with
     | nil=>simp [cmpXL] at h2
     | cons c n=>
      rw [cmpXL] at h1 h2 ⊢
      by_cases hab:cmpX a b=0
      ·rw [if_neg (by simp [hab])] at h1
       have:=cmpX_zero a b hab;subst this
       by_cases hbc:cmpX a c=0
       ·rw [if_neg (by simp [hbc])] at h2 ⊢
        exact ihl m n (fun k hk'=>hk k (List.mem_cons_of_mem _ hk')) h1 h2
       ·rw [if_pos hbc] at h2 ⊢;exact h2
      ·rw [if_pos hab] at h1
       by_cases hbc:cmpX b c=0
       ·have:=cmpX_zero b c hbc;subst this
        rw [if_pos hab];exact h1
       ·rw [if_pos hbc] at h2
        have h3:=hk a List.mem_cons_self b c h1 h2
        rw [if_pos (by omega)];exact h3
  intro h1 h2
  by_cases e1:op=op1
  ·subst e1
   rw [if_neg (by simp)] at h1
   by_cases e2:op=op2
   ·subst e2
    rw [if_neg (by simp)] at h2 ⊢
    by_cases f1:lt=lt1
    ·subst f1
     rw [if_neg (by simp)] at h1
     by_cases f2:lt=lt2
     ·subst f2
      rw [if_neg (by simp)] at h2 ⊢
      exact key ks ks1 ks2 ih h1 h2
     ·rw [if_pos f2] at h2 ⊢;exact h2
    ·rw [if_pos f1,cmpZ_lt] at h1
     by_cases f2:lt1=lt2
     ·subst f2;rw [if_pos f1,cmpZ_lt];exact h1
     ·rw [if_pos f2,cmpZ_lt] at h2;rw [if_pos (by omega),cmpZ_lt];omega
   ·rw [if_pos e2] at h2 ⊢;exact h2
  ·rw [if_pos e1,cmpZ_lt] at h1
   by_cases e2:op1=op2
   ·subst e2;rw [if_pos e1,cmpZ_lt];exact h1
   ·rw [if_pos e2,cmpZ_lt] at h2;rw [if_pos (by omega),cmpZ_lt];omega
def leX (a b:Ex):Prop:=¬ cmpX b a<0
theorem leX_anti {a b:Ex} (h:leX a b) (k:leX b a):a=b:=by
 unfold leX at h k;have:=cmpX_neg a b;exact cmpX_zero a b (by omega)
theorem leX_trans {a b c:Ex} (h:leX a b) (k:leX b c):leX a c:=by
 unfold leX at *
 intro hc
 have n1:=cmpX_neg a b
 have n2:=cmpX_neg b c
 by_cases e1:cmpX a b=0
 ·have:=cmpX_zero a b e1;subst this;exact k hc
 ·exact k (cmpX_trans c a b hc (by omega))
theorem insX_perm (a:Ex):∀ l,(insX a l).Perm (a :: l)
 | []=>.refl _
 | b :: l=>by
  unfold insX
  split
  ·exact .refl _
  ·exact ((insX_perm a l).cons b).trans (.swap a b l)
theorem sortX_perm:∀ l:List Ex,(sortX l).Perm l
 | []=>.refl _
 | a :: l=>(insX_perm a (sortX l)).trans ((sortX_perm l).cons a)
theorem insX_sorted (a:Ex):∀ l:List Ex,l.Pairwise leX→(insX a l).Pairwise leX
 | [],_=>by simp [insX]
 | b :: l,h=>by
  rw [List.pairwise_cons] at h
  unfold insX
  split
  ·rename_i hc
   have hab:leX a b:=by unfold leX;have:=cmpX_neg a b;omega
   rw [List.pairwise_cons]
   refine ⟨fun x hx=>?_,List.pairwise_cons.2 h⟩
   rcases List.mem_cons.1 hx with rfl | hx
   ·exact hab
   ·exact leX_trans hab (h.1 x hx)
  ·rename_i hc
   have hba:leX b a:=by unfold leX;omega
   rw [List.pairwise_cons]
   refine ⟨fun x hx=>?_,insX_sorted a l h.2⟩
   rcases List.mem_cons.1 ((insX_perm a l).mem_iff.1 hx) with rfl | hx
   ·exact hba
   ·exact h.1 x hx
theorem sortX_sorted:∀ l:List Ex,(sortX l).Pairwise leX
 | []=>.nil
 | a :: l=>insX_sorted a _ (sortX_sorted l)
theorem sorted_one:∀ {l m:List Ex},l.Perm m→l.Pairwise leX→m.Pairwise leX→l=m
 | [],m,h,_,_=>by rw [h.nil_eq]
 | a :: l,[],h,_,_=>by have:=h.length_eq;simp at this
 | a :: l,b :: m,h,h1,h2=>by
  rw [List.pairwise_cons] at h1 h2
  have hab:a=b:=by
   have ha:a∈b :: m:=h.mem_iff.1 List.mem_cons_self
   have hb:b∈a :: l:=h.mem_iff.2 List.mem_cons_self
   rcases List.mem_cons.1 ha with e | ha
   ·exact e
   ·rcases List.mem_cons.1 hb with e | hb
    ·exact e.symm
    ·exact leX_anti (h1.1 b hb) (h2.1 a ha)
  subst hab
  rw [sorted_one (h.cons_inv) h1.2 h2.2]
theorem sortX_of {l m:List Ex} (h:m.Perm l) (hs:m.Pairwise leX):m=sortX l:=sorted_one (h.trans (sortX_perm l).symm) hs (sortX_sorted l)
theorem mem_sortX {l:List Ex} {x:Ex}:x∈sortX l↔x∈l:=(sortX_perm l).mem_iff
theorem sortX_len (l:List Ex):(sortX l).length=l.length:=(sortX_perm l).length_eq
theorem ddG_mem {α:Type} {q:α→α→Bool} {d:α} {xs:List α} (hq:∀ a b,q a b=true→a=b) {x:α}:∀ m,m≤xs.length→(x∈ddG q d xs m↔x∈xs.take m)
 | 0,_=>by simp [ddG]
 | m+1,h=>by
  have ih:=ddG_mem (d:=d) (xs:=xs) hq (x:=x) m (by omega)
  rw [take_snocD d xs m (by omega),List.mem_append,List.mem_singleton]
  unfold ddG
  split
  ·rename_i hc
   rw [ih]
   have e:=hq _ _ hc.2
   constructor
   ·exact .inl
   ·rintro (h1 | rfl)
    ·exact h1
    ·rw [e]
     have:m=(m - 1)+1:=by omega
     rw [this,take_snocD d xs (m - 1) (by omega)];simp
  ·rw [List.mem_append,ih,List.mem_singleton]
theorem ddG_len {α:Type} {q:α→α→Bool} {d:α} {xs:List α}:∀ m,(ddG q d xs m).length≤m
 | 0=>by simp [ddG]
 | m+1=>by
  have ih:=ddG_len (q:=q) (d:=d) (xs:=xs) m
  unfold ddG
  split
  ·omega
  ·simp;omega
theorem ddG_all {α:Type} {q:α→α→Bool} {d:α} {xs:List α}:∀ m,m≤xs.length→(∀ i,0<i→i<m→q (xs.getD i d) (xs.getD (i - 1) d)=false)→ddG q d xs m=xs.take m
 | 0,_,_=>by simp [ddG]
 | m+1,hm,h=>by
  rw [take_snocD d xs m (by omega),← ddG_all m (by omega) (fun i h1 h2=>h i h1 (by omega))]
  exact if_neg fun hc=>by rw [h m hc.1 (by omega)] at hc;cases hc.2
theorem eqX_eq {a b:Ex} (h:eqX a b=true):a=b:=cmpX_zero a b (of_decide_eq_true h)
theorem mem_compX {l:List Ex} {x:Ex}:x∈compX l↔x∈l:=by
 unfold compX;rw [ddG_mem (fun _ _=>eqX_eq) _ (Nat.le_refl _),List.take_length]
theorem compX_len (l:List Ex):(compX l).length≤l.length:=ddG_len _
theorem mem_ordE {l m:List Ex} (h:ordE l=some m) {x:Ex}:x∈m↔x∈l:=by
 cases h;rw [mem_compX,mem_sortX]
end Go.Sx
namespace Go.Sx
open Go.RowKit Go.Proofs Go.Lib Go.Sort
theorem FrameX.grown {w w':World} (h:FrameX (fun _=>False) w w'):∃ q os,w'=grow (w.drewN q) os:=by
 refine ⟨w'.drawn - w.drawn,w'.heap.extract w.heap.size w'.heap.size,?_⟩
 obtain ⟨h1,h2,h3,h4,h5,h6⟩:=h
 cases w with | mk hp tp dr os ou=>
 cases w' with | mk hp' tp' dr' os' ou'=>
 simp only at h1 h2 h3 h4 h5 h6
 subst h1 h2 h3
 simp only [grow,World.drewN,World.mk.injEq,true_and,and_true]
 refine ⟨?_,by omega⟩
 apply Array.ext_getElem?
 intro k
 rw [Array.getElem?_append]
 by_cases hk:k<hp.size
 ·rw [if_pos hk];exact h5 k hk id
 ·rw [if_neg hk,Array.getElem?_extract]
  by_cases h7:k<hp'.size
  ·rw [if_pos (by omega)];congr 1;omega
  ·rw [if_neg (by omega),Array.getElem?_eq_none (by omega)]
theorem sortWorldK_frame {α:Type} [Inhabited α] (enc:α→List Value) (k:Nat) (w:World) (blk off m:Nat) (dk:Array α) (os:Array Obj) {F:Nat→Prop} (hF:F blk):FrameX F w (sortWorldK enc k w blk off m dk os):=by
 refine ⟨rfl,rfl,rfl,?_,fun b hb hn=>?_,?_⟩
 ·simp [sortWorldK,grow,putRowK,putRow,mapBlock,Sort.ahead]
 ·have hne:blk ≠ b:=fun e=>hn (e ▸ hF)
  unfold sortWorldK
  rw [heap_grow_old _ _ (by simp [putRowK,putRow,mapBlock,Sort.ahead];exact hb)]
  simp [putRowK,putRow,mapBlock,Sort.ahead,Array.getElem?_modify,hne]
 ·simp [sortWorldK,grow,putRowK,putRow,mapBlock,Sort.ahead]
theorem flatK_list {α:Type} [Inhabited α] (enc:α→List Value) (k:Nat) (hk:∀ x,(enc x).length=k) (d:List α):(flatK enc k d.toArray).toList=d.flatMap enc:=by
 by_cases k0:k=0
 ·subst k0
  have:∀ x∈d,enc x=[]:=fun x _=>List.eq_nil_of_length_eq_zero (hk x)
  simp [flatK,List.flatMap_eq_nil_iff.2 this]
 ·have kp:0<k:=by omega
  induction d with
  | nil=>simp [flatK]
  | cons a d ih=>
   apply List.ext_getElem?
   intro t
   have hget:∀ (l:List α) (t:Nat),(flatK enc k l.toArray).toList[t]? = if t<l.length * k then some ((enc (l.toArray[t / k]!))[t % k]!) else none:=by
    intro l t
    simp only [flatK,Array.toList_map,Array.toList_range,List.getElem?_map,List.size_toArray]
    by_cases h:t<l.length * k
    ·rw [if_pos h,List.getElem?_range h];rfl
    ·rw [if_neg h,List.getElem?_eq_none (by simpa using h)];rfl
   rw [hget,List.flatMap_cons]
   by_cases h1:t<k
   ·rw [if_pos (by simp [Nat.add_mul];omega),List.getElem?_append_left (by rw [hk];exact h1),Nat.div_eq_of_lt h1,Nat.mod_eq_of_lt h1]
    have:t<(enc a).length:=by rw [hk];exact h1
    simp [this]
   ·rw [List.getElem?_append_right (by rw [hk];omega),← ih,hget,hk]
    have e:(t - k) / k+1=t / k:=by rw [← Nat.add_div_right _ kp];congr 1;omega
    have e2:(t - k) % k=t % k:=by rw [← Nat.add_mod_right (t - k) k];congr 1;omega
    by_cases h2:t - k<d.length * k
    ·rw [if_pos h2,if_pos (by simp [Nat.add_mul];omega),e2,← e]
     simp
    ·rw [if_neg h2,if_neg (by simp [Nat.add_mul];omega)]
theorem cmpLays_of {P:Program} {g:Nat} {cb:List Value} {α:Type} [Inhabited α] {enc:α→List Value} {k:Nat} {cf:α→α→Int} {blk off size:Nat} {w:World} {F:Nat→Prop} (hF:F blk)
  (h:∀ w',FrameX F w w'→∀ x y:α,CallS P g ([.agg (enc x).toArray,.agg (enc y).toArray]++cb) w' (fun r o=>r = .int .i64 (cf x y))):CmpLays P g cb.toArray enc k cf blk off size w:=by
 intro m os dk _ x y
 have:=h _ (sortWorldK_frame enc k w blk off m dk os hF) x y
 unfold CallS at this
 have e:(([.agg (enc x).toArray,.agg (enc y).toArray]++cb:List Value)).toArray = #[.agg (enc x).toArray,.agg (enc y).toArray]++cb.toArray:=by simp
 rw [e] at this
 refine this.mono ?_
 rintro e w' ⟨v,own',hφ,rfl,hx,_⟩
 exact ⟨by rw [hφ],hx.grown⟩
def SortK (P:Program) (f g:Nat) (cb:List Value) (k:Nat):Prop:=
 ∀ {α:Type} [Inhabited α] (enc:α→List Value),(∀ x,(enc x).length=k)→(∀ x,∀ v∈enc x,v.oneCell'=true)→∀ (cf:α→α→Int),SWO (ltOf cf)→∀ (blk off cap:Nat) (d:Array α) (w:World),
  CmpLays P g cb.toArray enc k cf blk off d.size w→HoldsK enc k w blk off d→blk<w.heap.size→d.size<4611686018427387904 →
  Calls P f #[.slice (some ⟨blk,off,none⟩) d.size cap,.func (.func g) #[] cb.toArray] w fun e w'=>
   e = .returned (.tuple #[])∧∃ d' n os,PermIn 0 d.size d d'∧SortedIn (ltOf cf) 0 d.size d'∧w'=sortWorldK enc k w blk off n d' os
theorem sort_call {P:Program} {f g k:Nat} {cb:List Value} (hkit:SortK P f g cb k) {α:Type} [Inhabited α] (enc:α→List Value) (hk:∀ x,(enc x).length=k) (h1:∀ x,∀ v∈enc x,v.oneCell'=true) (cf:α→α→Int) (hO:SWO (ltOf cf))
  (w:World) (F:Nat→Prop) (v:Value) (E:TypeId) (d:List α) (hA:(row v E k d.length (d.flatMap enc)).holds w F) (hd:1≤d.length∧d.length<4611686018427387904)
  (hc:∀ w',FrameX F w w'→∀ x y:α,CallS P g ([.agg (enc x).toArray,.agg (enc y).toArray]++cb) w' (fun r o=>r = .int .i64 (cf x y))) :
  CallM P f [v,.func (.func g) #[] cb.toArray] w F (fun r A o=>∃ d':List α,r = .tuple #[]∧A=row v E k d.length (d'.flatMap enc)∧o=[]∧d'.Perm d∧d'.Pairwise (fun a b=>¬ cf b a<0)):=by
 obtain ⟨hown,hF⟩:=hA
 obtain ⟨hlen,hrow⟩:=hown
 rcases hrow with ⟨rfl,h0⟩ | ⟨gb,cap,cur,rfl,hb0,hb,hnc,hcm,hcsz,htake⟩
 ·omega
 ·have hFb:F gb:=(hF gb).2 rfl
  have hgb:gb<w.heap.size:=by
   rcases Nat.lt_or_ge gb w.heap.size with h | h
   ·exact h
   ·rw [Array.getElem?_eq_none h] at hb;cases hb
  have hfl:(flatK enc k d.toArray).toList=d.flatMap enc:=flatK_list enc k hk d
  have hcurk:d.length * k≤cur.size:=by rw [hcsz];exact Nat.mul_le_mul_right k hnc
  have hH:HoldsK enc k w gb 0 d.toArray:=by
   intro j hj
   have hj':j<d.length * k:=by simpa using hj
   have e1:(flatK enc k d.toArray)[j]? = cur[j]?:=by
    rw [← Array.getElem?_toList,hfl,← htake,List.getElem?_take,if_pos hj',Array.getElem?_toList]
   have hjc:j<cur.size:=by omega
   have e2:(flatK enc k d.toArray)[j]! = cur[j]:=by
    rw [getElem!_pos _ j hj]
    rw [Array.getElem?_eq_getElem hj,Array.getElem?_eq_getElem hjc] at e1
    simpa using e1
   refine ⟨?_,?_⟩
   ·simp only [World.cell?,hb,Nat.zero_add,id]
    rw [e2];simp [hjc]
   ·simp [World.frozen?,hb]
  have hkk:=hkit enc hk h1 cf hO gb 0 cap d.toArray w (cmpLays_of hFb hc) hH hgb (by simpa using hd.2)
  unfold CallM
  simp only [List.size_toArray] at hkk
  refine hkk.mono ?_
  rintro e w' ⟨rfl,d',n,os,hp,hs,rfl⟩
  obtain ⟨hps,_,hperm⟩:=hp
  simp only [List.size_toArray] at hps hperm hs
  have hd'l:d'.toList.length=d.length:=by simpa using hps
  refine ⟨.tuple #[],row (.slice (some ⟨gb,0,none⟩) d.length cap) E k d.length (d'.toList.flatMap enc),[],⟨d'.toList,rfl,rfl,rfl,?_,?_⟩,rfl,sortWorldK_frame enc k w gb 0 n d' os hFb,?_⟩
  ·have e3:(d'.extract 0 d.length).toList=d'.toList:=by
    have:d'.extract 0 d.length=d':=by rw [← hps];simp
    rw [this]
   have e4:((d.toArray).extract 0 d.length).toList=d:=by simp
   rw [e3,e4] at hperm;exact hperm
  ·rw [List.pairwise_iff_getElem]
   intro i j hi hj hij
   have:=hs i j (Nat.zero_le _) hij (by omega)
   rw [getElem!_pos d' i (by simpa using hi),getElem!_pos d' j (by simpa using hj)] at this
   unfold ltOf at this
   rw [decide_eq_false_iff_not] at this
   simpa using this
  ·have hfl':(flatK enc k d').toList=d'.toList.flatMap enc:=by
    have:=flatK_list enc k hk d'.toList
    simpa using this
   have hblk:(sortWorldK enc k w gb 0 n d' os).heap[gb]? = some (.cells (putCells id 0 (flatK enc k d') cur) E (0,0)):=by
    unfold sortWorldK
    rw [heap_grow_old _ _ (by simp [putRowK,putRow,mapBlock,Sort.ahead];exact hgb)]
    simp [putRowK,putRow,mapBlock,Sort.ahead,Array.getElem?_modify,hb,onCells]
   have hpl:(putCells id 0 (flatK enc k d') cur).toList.take (d.length * k)=d'.toList.flatMap enc:=by
    rw [← hfl']
    apply List.ext_getElem?
    intro t
    rw [List.getElem?_take,Array.getElem?_toList,Array.getElem?_toList]
    by_cases ht:t<d.length * k
    ·have htc:t<cur.size:=by omega
     have htf:t<(flatK enc k d').size:=by simp [hps];exact ht
     rw [if_pos ht]
     simp only [putCells,Array.getElem?_mapIdx,Array.getElem?_eq_getElem htc,Option.map_some,Nat.zero_le,Nat.zero_add,htf,and_self,if_true,Nat.sub_zero,id]
     rw [getElem!_pos _ t htf,Array.getElem?_eq_getElem htf]
    ·rw [if_neg ht,Array.getElem?_eq_none (by simp [hps];omega)]
   have hrow':(sortWorldK enc k w gb 0 n d' os).ownsRow 0 E k (.slice (some ⟨gb,0,none⟩) d.length cap) d.length (d'.toList.flatMap enc):=by
    refine ⟨?_,.inr ⟨gb,cap,_,rfl,Nat.zero_le _,hblk,hnc,hcm,by simp [putCells,hcsz],hpl⟩⟩
    rw [← hpl,List.length_take];simp [putCells];omega
   refine ⟨_,HeapAt.one ⟨hrow',hF⟩,fun i b hb2=>.inl hb2.2⟩
theorem AK.seqJ {C:Cx} {sl:List (Nat × Value)} {own:List Asn} {x z:Code} {Q:Exit→Act→World→Prop} {X:Type} (kv:List (Nat × Value)) (ch:X→List (Nat × Value)) (ow:X→List Asn) (good:X→Prop) (hk:SlLe sl kv)
  (main:∀ K:Act→World→Prop,(∀ sl' own' a,good a→SlLe sl' (ch a++kv)→(∀ w,HW C own' w→HW C (ow a) w)→AK C ⟨sl',own'⟩ K)→AK C ⟨sl,own⟩ (x.wp C.P (Exit.then K Q)))
  (h:∀ a,good a→AK C ⟨ch a++kv,ow a⟩ (z.wp C.P Q)):AK C ⟨sl,own⟩ ((Code.seq x z).wp C.P Q):=
 AK.seq fun K hK=>main K fun sl' own' a hg h1 h2=>hK _ (AK.weakenS h1 h2 (h a hg))
theorem Yl.addW {C:Cx} {sl:List (Nat × Value)} {own:List Asn} {dst:Option Nat} {ty:TypeId} {pos:String} {aft:Array Edge} {g:Option (Nat × Bool)} {x y:Operand} {t t':TypeId} {m n:Int} (hx:opv ⟨sl,own⟩ x=some (.int .i64 m)) (hy:opv ⟨sl,own⟩ y=some (.int .i64 n)) :
  Yl C ⟨sl,own⟩ ⟨dst,.binOp .add t x y t',ty,pos,aft,g⟩ (.int .i64 (IntKind.i64.wrap (m+n))):=
 fun a w hs=>by (simp only [execOp,opv_eval hs hx,opv_eval hs hy];simp [go_sem,Op.intArith])
end Go.Sx
namespace Go.Sx
open Go.RowKit
theorem simpE_eq (e:Ex):simpE e=if e.kids.length=0 then some (.mk e.op e.lt []) else if e.kids.length≤1073741824 then (simpL e.kids).bind fun l=>joinE e.op l else none:=by
 cases e with | mk op lt ks=>simp only [simpE,Ex.op,Ex.lt,Ex.kids];rfl
theorem simpL_at:∀ {ks L:List Ex},simpL ks=some L→L.length=ks.length∧∀ k,k<ks.length→simpE (ks.getD k default)=some (L.getD k default)
 | [],L,h=>by simp [simpL] at h;subst h;exact ⟨rfl,fun k hk=>by simp at hk⟩
 | a :: ks,L,h=>by
  rw [simpL] at h
  obtain ⟨b,hb,h⟩:=bind_some h
  obtain ⟨M,hM,h⟩:=bind_some h
  cases h
  obtain ⟨h1,h2⟩:=simpL_at hM
  refine ⟨by simp [h1],fun k hk=>?_⟩
  cases k with
  | zero=>simpa using hb
  | succ k=>simpa using h2 k (by simpa using hk)
def fillE (n:Nat) (L:List Ex) (k:Nat):List Ex:=L.take k++List.replicate (n - k) e0
def fillVT (n:Nat) (ts:List Value):List Value:=ts++List.replicate (n - ts.length) nilV
theorem fillE_len {n:Nat} {L:List Ex} {k:Nat} (h:L.length=n) (hk:k≤n):(fillE n L k).length=n:=by simp [fillE];omega
theorem fillV_len {n:Nat} {ts:List Value} (hk:ts.length≤n):(fillVT n ts).length=n:=by simp [fillVT];omega
theorem fillE_set {n:Nat} {L:List Ex} {k:Nat} (h:L.length=n) (hk:k<n):(fillE n L k).set k (L.getD k default)=fillE n L (k+1):=by
 unfold fillE
 rw [take_snocD default L k (by omega)]
 have e:List.replicate (n - k) e0=e0 :: List.replicate (n - (k+1)) e0:=by rw [show n - k=(n - (k+1))+1 by omega];rfl
 rw [e,List.set_append_right _ _ (by simp;omega)]
 have e2:k - (L.take k).length=0:=by simp;omega
 rw [e2];simp
theorem fillV_set {n:Nat} {ts:List Value} (hk:ts.length<n) (s:Value):(fillVT n ts).set ts.length s=fillVT n (ts++[s]):=by
 unfold fillVT
 have e:List.replicate (n - ts.length) nilV=nilV :: List.replicate (n - (ts++[s]).length) nilV:=by rw [show n - ts.length=(n - (ts++[s]).length)+1 by simp;omega];rfl
 rw [e,List.set_append_right _ _ (by omega)]
 simp
theorem fill_zero (n:Nat) (L:List Ex):fillE n L 0=List.replicate n e0∧fillVT n []=List.replicate n nilV:=by simp [fillE,fillVT]
theorem fill_full {n:Nat} {L:List Ex} {ts:List Value} (h:L.length=n) (ht:ts.length=n):fillE n L n=L∧fillVT n ts=ts:=by
 unfold fillE fillVT
 rw [List.take_of_length_le (by omega)]
 simp [ht]
theorem xcs_fill {n:Nat} {L:List Ex} {ts:List Value} (h:L.length=n) (hk:ts.length<n) (s:Value) :
  (xcs (fillE n L ts.length) (fillVT n ts)).take (ts.length * 3)++[.int .i64 (L.getD ts.length default).op,.int .i64 (L.getD ts.length default).lt,s]++(xcs (fillE n L ts.length) (fillVT n ts)).drop (ts.length * 3+3)=xcs (fillE n L (ts.length+1)) (fillVT n (ts++[s])):=by
 rw [xcs_set _ _ _ (by rw [fillE_len h (by omega),fillV_len (by omega)]) (by rw [fillE_len h (by omega)];omega),fillE_set h (by omega),fillV_set (by omega)]
structure Got (l:List Itm) (L:List Ex) (ts:List Value):Prop where
 d:∀ i,i<ts.length→Itm.deep (ts.getD i undef) (L.getD i default).kids∈l
 s:∀ i,i<ts.length→IsSl (ts.getD i undef)
theorem Got.nil (l:List Itm) (L:List Ex):Got l L []:=⟨fun i hi=>by simp at hi,fun i hi=>by simp at hi⟩
theorem Got.later {l l':List Itm} {L:List Ex} {ts:List Value} (h:Got l L ts) (hs:∀ x∈l,x∈l'):Got l' L ts:=⟨fun i hi=>hs _ (h.d i hi),h.s⟩
theorem getD_snoc {α:Type} (d:α) (l:List α) (a:α) (i:Nat):(l++[a]).getD i d=if i<l.length then l.getD i d else if i=l.length then a else d:=by
 simp only [List.getD_eq_getElem?_getD]
 by_cases h:i<l.length
 ·rw [List.getElem?_append_left h,if_pos h]
 ·rw [List.getElem?_append_right (by omega),if_neg h]
  by_cases h2:i=l.length
  ·subst h2;simp
  ·rw [if_neg h2,List.getElem?_eq_none (by simp;omega)];rfl
theorem Got.snoc {l:List Itm} {L:List Ex} {ts:List Value} (h:Got l L ts) {s:Value} (hd:Itm.deep s (L.getD ts.length default).kids∈l) (hs:IsSl s):Got l L (ts++[s]):=
 ⟨fun i hi=>by
  rw [getD_snoc]
  split
  ·exact h.d i (by assumption)
  ·have:i=ts.length:=by simp at hi;omega
   subst this;rw [if_pos rfl];exact hd,fun i hi=>by
  rw [getD_snoc]
  split
  ·exact h.s i (by assumption)
  ·have:i=ts.length:=by simp at hi;omega
   subst this;rw [if_pos rfl];exact hs⟩
end Go.Sx
namespace Go.Sx
open Go.RowKit
theorem addr_add_add (a:Addr) (x y:Nat):(a.add x).add y=a.add (x+y):=by
 unfold Addr.add;repeat' split
 all_goals first | rfl | omega | (simp;omega) | (simp_all;done) | (congr 1;omega)
theorem RdS.fr {C:Cx} {own:List Asn} {v:Value} {sz n a:Nat} {cs:List Value} (h:RdS C own v sz n cs) (hc:CutS C own v n) (ha:a≤n):RdS C own (slFr v sz a) sz (n - a) (cs.drop (a * sz)):=fun w hw=>by
 obtain ⟨oa,cap,rfl,h1,h2,h3,h4⟩:=h w hw
 obtain ⟨ao,c,e,hnc⟩:=hc w hw
 cases e
 have hlen:(cs.drop (a * sz)).length=(n - a) * sz:=by rw [List.length_drop,h2,Nat.sub_mul]
 rcases Nat.lt_or_ge a n with hlt | hge
 ·have hne:cap ≠ a:=by omega
  refine ⟨oa.map (·.add (a * sz)),cap - a,by simp [slFr,hne],by omega,hlen,fun _ hs=>by simpa using h3 (by omega) hs,fun ad j u had hj=>?_⟩
  obtain ⟨ad0,rfl⟩:∃ x,oa=some x:=by cases oa with | none=>simp at had | some x=>exact ⟨x,rfl⟩
  simp at had
  subst had
  have hj':cs[a * sz+j]? = some u:=by rw [List.getElem?_drop] at hj;exact hj
  obtain ⟨_,h5⟩:=h4 ad0 (a * sz+j) u rfl hj'
  refine ⟨trivial,?_⟩
  rw [addr_add_add];exact h5
 ·have e0:n - a=0:=by omega
  refine ⟨_,cap - a,by simp only [slFr];rfl,by omega,hlen,fun hp=>by omega,fun ad j u _ hj=>?_⟩
  rw [e0,Nat.zero_mul] at hlen
  rw [List.eq_nil_of_length_eq_zero hlen] at hj
  cases hj
def rowX (v:Value) (E:TypeId) (sz n:Nat):Asn where
 holds w F:=∃ cs,(row v E sz n cs).holds w F
 loc:=by
  rintro w w' F ⟨cs,h⟩ hb
  exact ⟨cs,(row v E sz n cs).loc w w' F h hb⟩
 lt:=by
  rintro w F ⟨cs,h⟩ b hb
  exact (row v E sz n cs).lt w F h b hb
theorem HW.toX {C:Cx} {own:List Asn} {w:World} {v:Value} {E:TypeId} {sz n:Nat} {cs:List Value} (i:Nat) (hi:own[i]? = some (row v E sz n cs)) (h:HW C own w):HW C (own.set i (rowX v E sz n)) w:=
 HW.elem i hi (fun F hF=>show (rowX v E sz n).holds w F from ⟨cs,hF⟩) h
theorem Yl.idxX {C:Cx} {sl:List (Nat × Value)} {own:List Asn} {dst:Option Nat} {ty:TypeId} {pos:String} {aft:Array Edge} {g:Option (Nat × Bool)} (j:Nat) {x i:Operand} {t e:TypeId} {E:TypeId} {sz:Nat} {v:Value} {n k:Nat} (hj:own[j]? = some (rowX v E sz n)) (ht:SlT C.P t e sz) (hx:opv ⟨sl,own⟩ x=some v) (hi:opv ⟨sl,own⟩ i=some (.int .i64 (k:Int)))
  (hz:0<sz) (h0:k<n):Yl C ⟨sl,own⟩ ⟨dst,.indexAddr t x i,ty,pos,aft,g⟩ (.pointer (some ((slA v).add (k * sz)))):=
 fun a w hs=>by
  obtain ⟨hf,Fs,hh,hal⟩:=hs.world
  obtain ⟨cs,hc⟩:=hh.at_ j _ hj
  obtain ⟨oa,cap,rfl,_,_,h4,_⟩:=row_rd hc
  have:=h4 (by omega) hz
  obtain ⟨ad,rfl⟩:=Option.isSome_iff_exists.1 this
  obtain ⟨inf,h2,h3⟩:=ht.inf
  have h0':(0:Int)≤(k:Int)∧(k:Int)<(n:Int):=by omega
  simp [execOp,opv_eval hs hx,opv_eval hs hi,Instr.indexAt,asIntOf,run_underlying ht.1,h0'.1,h0,sizeOf,typeInfo,h2,h3,slA]
theorem dervL_at {a:Int} {nm:Bool}:∀ {ks:List Ex} {ds:List Dv},dervL a nm ks=some ds→ds.length=ks.length∧∀ k,k<ks.length→dervE a nm (ks.getD k default)=some (ds.getD k default)
 | [],ds,h=>by simp [dervL] at h;subst h;exact ⟨rfl,fun k hk=>by simp at hk⟩
 | x :: ks,ds,h=>by
  rw [dervL] at h
  obtain ⟨b,hb,h⟩:=bind_some h
  obtain ⟨M,hM,h⟩:=bind_some h
  cases h
  obtain ⟨h1,h2⟩:=dervL_at hM
  refine ⟨by simp [h1],fun k hk=>?_⟩
  cases k with
  | zero=>simpa using hb
  | succ k=>simpa using h2 k (by simpa using hk)
def nlD (op:Int) (ds:List Dv):Bool:=if op=4 then decide (0<(ds.filter (·.2.2)).length) else if op=6 then decide ((ds.filter (·.2.2)).length=ds.length) else if op=8 then decide ((ds.filter (·.2.2)).length=0) else false
theorem boolD_some {op:Int} {ds:List Dv} {d:Dv} (h:boolD op ds=some d):joinE op (ds.map (·.1))=some d.1∧joinE op (ds.map (·.2.1))=some d.2.1∧d.2.2=nlD op ds:=by
 unfold boolD at h
 obtain ⟨b,hb,h⟩:=bind_some h
 obtain ⟨s,hs,h⟩:=bind_some h
 cases h
 exact ⟨hb,hs,rfl⟩
theorem map_getD1 (ds:List Dv) (k:Nat) (h:k<ds.length):(ds.map (·.1)).getD k default=(ds.getD k default).1∧(ds.map (·.2.1)).getD k default=(ds.getD k default).2.1:=by
 simp [List.getD_eq_getElem?_getD,h]
theorem count_snoc (ds:List Dv) (k:Nat) (h:k<ds.length):((ds.take (k+1)).filter (·.2.2)).length=((ds.take k).filter (·.2.2)).length+if (ds.getD k default).2.2 then 1 else 0:=by
 rw [take_snocD default ds k h,List.filter_append,List.length_append]
 congr 1
 by_cases hq:(ds.getD k default).2.2=true
 ·rw [if_pos hq,List.filter_cons_of_pos (by simpa using hq)];rfl
 ·rw [if_neg hq,List.filter_cons_of_neg (by simpa using hq)];rfl
theorem count_le (ds:List Dv) (k:Nat):((ds.take k).filter (·.2.2)).length≤ds.length:=by
 have h1:=List.length_filter_le (fun d:Dv=>d.2.2) (ds.take k)
 have h2:(ds.take k).length≤ds.length:=by rw [List.length_take];omega
 omega
theorem dervE_bool {a:Int} {nm:Bool} {e:Ex} {d:Dv} (h:dervE a nm e=some d) (ho:e.op=4∨e.op=6∨e.op=8):e.kids.length≤1073741824∧∃ ds,dervL a nm e.kids=some ds∧boolD e.op ds=some d:=by
 cases e with
 | mk op lt ks=>
  simp only [Ex.op,Ex.kids] at ho ⊢
  rw [dervE,if_neg (by omega),if_neg (by omega),if_pos ho] at h
  split at h
  ·obtain ⟨ds,h1,h2⟩:=bind_some h
   exact ⟨by assumption,ds,h1,h2⟩
  ·cases h
theorem dervE_star {a:Int} {nm:Bool} {e:Ex} {d:Dv} (h:dervE a nm e=some d) (ho:e.op=7):∃ k0 s b,0<e.kids.length∧dervE a nm (e.kids.getD 0 default)=some k0∧joinE 7 [k0.2.1]=some s∧joinE 5 [k0.1,s]=some b∧d=(b,s,true):=by
 cases e with
 | mk op lt ks=>
  simp only [Ex.op,Ex.kids] at ho ⊢
  rw [dervE,if_neg (by omega),if_neg (by omega),if_neg (by omega),if_pos ho] at h
  obtain ⟨ds,h1,h⟩:=bind_some h
  obtain ⟨h3,h4⟩:=dervL_at h1
  split at h
  ·cases h
  ·obtain ⟨s,hs,h⟩:=bind_some h
   obtain ⟨b,hb,h⟩:=bind_some h
   cases h
   exact ⟨_,s,b,by omega,h4 0 (by omega),hs,hb,rfl⟩
theorem dervE_con {a:Int} {nm:Bool} {e:Ex} {d:Dv} (h:dervE a nm e=some d) (ho:e.op=5):e.kids.length≤1073741824∧∃ BY SV N P,dervC a nm true e.kids=some (BY,SV,N)∧partsD BY SV=some P∧joinE 4 P=some d.1∧joinE 5 SV=some d.2.1∧d.2.2=N:=by
 cases e with
 | mk op lt ks=>
  simp only [Ex.op,Ex.kids] at ho ⊢
  rw [dervE,if_neg (by omega),if_neg (by omega),if_neg (by omega),if_neg (by omega),if_pos ho] at h
  split at h
  ·obtain ⟨⟨BY,SV,N⟩,h1,h⟩:=bind_some h
   obtain ⟨P,hP,h⟩:=bind_some h
   obtain ⟨b,hb,h⟩:=bind_some h
   obtain ⟨s,hs,h⟩:=bind_some h
   cases h
   exact ⟨by assumption,BY,SV,N,P,h1,hP,hb,hs,rfl⟩
  ·cases h
structure CatI (a:Int) (nm:Bool) (ks BY SV:List Ex) (N nl:Bool) (k m:Nat):Prop where
 kl:k≤ks.length
 ml:m≤BY.length
 sl:SV.length=ks.length
 d:dervC a nm nl (ks.drop k)=some (BY.drop m,SV.drop k,N)
theorem dervC_len {a:Int} {nm:Bool}:∀ {ks:List Ex} {nl:Bool} {x:List Ex × List Ex × Bool},dervC a nm nl ks=some x→x.2.1.length=ks.length∧x.1.length≤ks.length
 | [],nl,x,h=>by simp [dervC] at h;subst h;simp
 | k :: ks,true,x,h=>by
  rw [dervC] at h
  obtain ⟨d,_,h⟩:=bind_some h
  obtain ⟨y,hy,h⟩:=bind_some h
  cases h
  obtain ⟨h1,h2⟩:=dervC_len hy
  simp;omega
 | k :: ks,false,x,h=>by
  rw [dervC] at h
  obtain ⟨d,_,h⟩:=bind_some h
  obtain ⟨y,hy,h⟩:=bind_some h
  cases h
  obtain ⟨h1,h2⟩:=dervC_len hy
  simp;omega
theorem CatI.start {a:Int} {nm:Bool} {ks BY SV:List Ex} {N:Bool} (h:dervC a nm true ks=some (BY,SV,N)):CatI a nm ks BY SV N true 0 0:=
 ⟨Nat.zero_le _,Nat.zero_le _,(dervC_len h).1,by simpa using h⟩
theorem drop_cons_getD {L:List Ex} {k:Nat} {x:Ex} {xs:List Ex} (h:L.drop k=x :: xs):k<L.length∧L.getD k default=x∧L.drop (k+1)=xs:=by
 have hlt:k<L.length:=by
  rcases Nat.lt_or_ge k L.length with h1 | h1
  ·exact h1
  ·rw [List.drop_eq_nil_of_le h1] at h;cases h
 rw [List.drop_eq_getElem_cons hlt] at h
 cases h
 exact ⟨hlt,by simp [List.getD_eq_getElem?_getD,hlt],rfl⟩
theorem CatI.yes {a:Int} {nm:Bool} {ks BY SV:List Ex} {N:Bool} {k m:Nat} (h:CatI a nm ks BY SV N true k m) (hk:k<ks.length) :
  ∃ d,dervE a nm (ks.getD k default)=some d∧m<BY.length∧BY.getD m default=d.1∧SV.getD k default=d.2.1∧CatI a nm ks BY SV N d.2.2 (k+1) (m+1):=by
 have hd:=h.d
 rw [List.drop_eq_getElem_cons hk,dervC] at hd
 obtain ⟨d,h1,hd⟩:=bind_some hd
 obtain ⟨y,hy,hd⟩:=bind_some hd
 simp only [Option.some.injEq,Prod.mk.injEq] at hd
 obtain ⟨e1,e2,e3⟩:=hd
 obtain ⟨b1,b2,b3⟩:=drop_cons_getD e1.symm
 obtain ⟨s1,s2,s3⟩:=drop_cons_getD e2.symm
 refine ⟨d,by simpa [List.getD_eq_getElem?_getD,hk] using h1,b1,b2,s2,by omega,by omega,h.sl,?_⟩
 rw [hy,b3,s3,← e3]
theorem CatI.no {a:Int} {nm:Bool} {ks BY SV:List Ex} {N:Bool} {k m:Nat} (h:CatI a nm ks BY SV N false k m) (hk:k<ks.length) :
  ((if nm then some (ks.getD k default) else simpE (ks.getD k default))=some (SV.getD k default))∧CatI a nm ks BY SV N false (k+1) m:=by
 have hd:=h.d
 rw [List.drop_eq_getElem_cons hk,dervC] at hd
 obtain ⟨s,h1,hd⟩:=bind_some hd
 obtain ⟨y,hy,hd⟩:=bind_some hd
 simp only [Option.some.injEq,Prod.mk.injEq] at hd
 obtain ⟨e1,e2,e3⟩:=hd
 obtain ⟨s1,s2,s3⟩:=drop_cons_getD e2.symm
 have e:ks.getD k default=ks[k]:=by simp [List.getD_eq_getElem?_getD,hk]
 rw [e]
 refine ⟨by rw [h1,s2],by omega,h.ml,h.sl,?_⟩
 rw [hy,s3,← e1,← e3]
theorem CatI.fin {a:Int} {nm:Bool} {ks BY SV:List Ex} {N nl:Bool} {m:Nat} (h:CatI a nm ks BY SV N nl ks.length m):m=BY.length∧nl=N:=by
 have hd:=h.d
 rw [List.drop_length,dervC] at hd
 simp only [Option.some.injEq,Prod.mk.injEq] at hd
 have:=congrArg List.length hd.1
 simp at this
 have:=h.ml
 exact ⟨by omega,hd.2.2⟩
theorem partsD_at:∀ {BY SV P:List Ex},partsD BY SV=some P→P.length=BY.length∧∀ i,i<BY.length→(if (BY.getD i default).op=1 then some (BY.getD i default) else joinE 5 (BY.getD i default :: SV.drop (i+1)))=some (P.getD i default)
 | [],SV,P,h=>by simp [partsD] at h;subst h;exact ⟨rfl,fun i hi=>by simp at hi⟩
 | b :: bs,SV,P,h=>by
  rw [partsD] at h
  obtain ⟨p,hp,h⟩:=bind_some h
  obtain ⟨M,hM,h⟩:=bind_some h
  cases h
  obtain ⟨h1,h2⟩:=partsD_at hM
  refine ⟨by simp [h1],fun i hi=>?_⟩
  cases i with
  | zero=>simpa using hp
  | succ i=>
   have:=h2 i (by simpa using hi)
   rw [List.drop_drop,show 1+(i+1)=i+1+1 by omega] at this
   simpa using this
theorem deep_cons_drop {l:List Itm} {b:Ex} {SV:List Ex} {sb:Value} {fs:List Value} {a:Nat} (hb:Itm.deep sb b.kids∈l) (h:Got l SV fs) (hf:fs.length=SV.length):∀ k,k<(b :: SV.drop a).length→Itm.deep ((sb :: fs.drop a).getD k undef) ((b :: SV.drop a).getD k default).kids∈l:=fun k hk=>by
 cases k with
 | zero=>exact hb
 | succ k=>
  have hk':k<SV.length - a:=by simpa using hk
  have:=h.d (a+k) (by omega)
  simpa [List.getD_eq_getElem?_getD] using this
theorem dervE_unit {a:Int} {nm:Bool} {e:Ex} {d:Dv} (h:dervE a nm e=some d) (ho:e.op=2):d=(emptyE,unitE,true):=by
 cases e with | mk op lt ks=>simp only [Ex.op] at ho;rw [dervE,if_pos ho] at h;cases h;rfl
theorem dervE_let {a:Int} {nm:Bool} {e:Ex} {d:Dv} (h:dervE a nm e=some d) (ho:e.op=3):d=(if e.lt=a then unitE else emptyE,.mk 3 e.lt [],false):=by
 cases e with | mk op lt ks=>simp only [Ex.op] at ho;rw [dervE,if_neg (by omega),if_pos ho] at h;cases h;rfl
theorem dervE_rest {a:Int} {nm:Bool} {e:Ex} {d:Dv} (h:dervE a nm e=some d) (h2:e.op ≠ 2) (h3:e.op ≠ 3) (h4:e.op ≠ 4) (h6:e.op ≠ 6) (h8:e.op ≠ 8) (h7:e.op ≠ 7) (h5:e.op ≠ 5):d=(emptyE,emptyE,false):=by
 cases e with | mk op lt ks=>simp only [Ex.op] at h2 h3 h4 h5 h6 h7 h8;rw [dervE,if_neg h2,if_neg h3,if_neg (by omega),if_neg h7,if_neg h5] at h;cases h;rfl
theorem two_deep {l:List Itm} {s t:Value} {k m:Ex} (h:Itm.deep s k.kids∈l) (h':Itm.deep t m.kids∈l):∀ i,i < [k,m].length→Itm.deep ([s,t].getD i undef) ([k,m].getD i default).kids∈l:=fun i hi=>by
 have:i=0∨i=1:=by simp at hi;omega
 rcases this with rfl | rfl
 ·exact h
 ·exact h'
def limE (d:Dv):Ex × Int:=if validE d.1 6=0 then (d.1,0) else (e0,3)
def limS (d:Dv) (s:Value):Value:=if validE d.1 6=0 then s else nilV
theorem letE_some {e:Ex} {a:Int} {p:Ex × Int} (h:letE e a=some p):∃ d,dervE a true e=some d∧p=limE d:=by
 unfold letE at h
 obtain ⟨d,hd,h⟩:=bind_some h
 cases h
 exact ⟨d,hd,rfl⟩
end Go.Sx
namespace Go.Sx
open Go.RowKit Go.Proofs Go.Lib Go.Sort
theorem cmpI_Z (x y:Int):cmpI x y=cmpZ x y:=rfl
theorem drop_get {α:Type} (d:α) {l:List α} {a m:Nat} (h:a≤m):(l.drop a).getD (m - a) d=l.getD m d:=by
 simp only [List.getD_eq_getElem?_getD,List.getElem?_drop]
 rw [show a+(m - a)=m by omega]
theorem drop_consD {α:Type} (d:α) {l:List α} {k:Nat} (h:k<l.length):l.drop k=l.getD k d :: l.drop (k+1):=by
 rw [List.drop_eq_getElem_cons h];simp [List.getD_eq_getElem?_getD,h]
section
variable {ks ls : List Ex} {k : Nat}
theorem cmpXL_next (h:k<ks.length) (h2:k<ls.length) (h3:cmpX (ks.getD k default) (ls.getD k default)=0):cmpXL (ks.drop k) (ls.drop k)=cmpXL (ks.drop (k+1)) (ls.drop (k+1)):=by
 rw [drop_consD default h,drop_consD default h2,cmpXL,if_neg (fun h=>h h3)]
theorem cmpXL_hit (h:k<ks.length) (h2:k<ls.length) (h3:¬ cmpX (ks.getD k default) (ls.getD k default)=0):cmpXL (ks.drop k) (ls.drop k)=cmpX (ks.getD k default) (ls.getD k default):=by
 rw [drop_consD default h,drop_consD default h2,cmpXL,if_pos h3]
theorem cmpXL_gt (h:k<ks.length) (h2:ls.length≤k):cmpXL (ks.drop k) (ls.drop k)=1:=by
 rw [drop_consD default h,List.drop_of_length_le h2,cmpXL]
theorem cmpXL_end (h:ks.length≤k) (h2:k≤ls.length):cmpXL (ks.drop k) (ls.drop k)=if k<ls.length then -1 else 0:=by
 rw [List.drop_of_length_le h]
 split
 ·rename_i h3;rw [drop_consD default h3,cmpXL]
 ·rw [List.drop_of_length_le (by omega),cmpXL]
end
theorem CallS.toM {P:Program} {f:FuncId} {vs:List Value} {w:World} {φ:Value→List Asn→Prop} {F:Nat→Prop} {A:Asn} (h:CallS P f vs w φ) (hA:A.holds w F):CallM P f vs w F (fun r A' o=>A'=A∧φ r o):=by
 refine Calls.mono h ?_
 rintro e w' ⟨v,own',hφ,rfl,hx,Fs,hh,hin⟩
 have hlt:∀ b,F b→b<w.heap.size:=A.lt w F hA
 refine ⟨v,A,own',⟨rfl,hφ⟩,rfl,hx.mono (fun _ h _=>h.elim),fun k b=>if k=0 then F b else Fs (k - 1) b,⟨fun k B hk=>?_,fun k hk b hb=>?_,fun i j b h1 h2=>?_⟩,fun i b hb=>?_⟩
 ·cases k with
  | zero=>cases hk;exact A.loc w w' F hA fun b hb=>hx.block b (hlt b hb) id
  | succ k=>exact hh.at_ k B (by simpa using hk)
 ·have:k ≠ 0:=by intro e;subst e;simp at hk
  simp only [this,if_false] at hb
  exact hh.out (k - 1) (by simp at hk;omega) b hb
 ·have key:∀ k b,(if k=0 then F b else Fs (k - 1) b)→(k=0∧b<w.heap.size)∨(k ≠ 0∧Fs (k - 1) b∧w.heap.size≤b):=fun k b h=>by
   split at h
   ·rename_i e;exact .inl ⟨e,hlt b h⟩
   ·rename_i e;exact .inr ⟨e,h,(hin _ b h).resolve_left id⟩
  rcases key i b h1 with ⟨a1,a2⟩ | ⟨a1,a2,a3⟩ <;> rcases key j b h2 with ⟨b1,b2⟩ | ⟨b1,b2,b3⟩
  ·omega
  ·omega
  ·omega
  ·have:=hh.apart _ _ b a2 b2;omega
 ·have hb:if i=0 then F b else Fs (i - 1) b:=hb
  split at hb
  ·exact .inl hb
  ·exact .inr ((hin _ b hb).resolve_left id)
abbrev XV (F:Nat→Prop) (w:World):={ p:Ex × Value // RdK (cellR F w) p.2 p.1.kids }
instance (F:Nat→Prop) (w:World):Inhabited (XV F w):=⟨⟨(e0,nilV),RdK.nil _⟩⟩
def encX {F:Nat→Prop} {w:World} (x:XV F w):List Value:=[.int .i64 x.1.1.op,.int .i64 x.1.1.lt,x.1.2]
def cfX {F:Nat→Prop} {w:World} (x y:XV F w):Int:=cmpX x.1.1 y.1.1
theorem swoX (F:Nat→Prop) (w:World):SWO (ltOf (cfX (F:=F) (w:=w))) where
 irrefl x:=by unfold ltOf cfX;rw [cmpX_refl];rfl
 trans x y z h1 h2:=by
  unfold ltOf cfX at *
  rw [decide_eq_true_eq] at *
  exact cmpX_trans _ _ _ h1 h2
 ntrans x y z h1 h2:=by
  unfold ltOf cfX at *
  rw [decide_eq_false_iff_not] at *
  exact leX_trans (a:=z.1.1) (b:=y.1.1) (c:=x.1.1) h2 h1
theorem encX_flat {F:Nat→Prop} {w:World} (d:List (XV F w)):d.flatMap encX=xcs (d.map (·.1.1)) (d.map (·.1.2)):=by
 unfold xcs
 rw [List.zip_map',List.flatMap_map]
 rfl
theorem xv_list {F:Nat→Prop} {w:World} {ks:List Ex} {ss:List Value} (hl:ss.length=ks.length) (hk:∀ i,i<ks.length→RdK (cellR F w) (ss.getD i undef) (ks.getD i default).kids) :
  ∃ d:List (XV F w),d.map (·.1.1)=ks∧d.map (·.1.2)=ss:=by
 have H:∀ p∈ks.zip ss,RdK (cellR F w) p.2 p.1.kids:=fun p hp=>by
  obtain ⟨i,hi⟩:=List.mem_iff_getElem?.1 hp
  rw [List.getElem?_zip_eq_some] at hi
  obtain ⟨h1,h2⟩:=hi
  have hil:=(List.getElem?_eq_some_iff.1 h1).1
  have:=hk i hil
  simpa [List.getD_eq_getElem?_getD,h1,h2] using this
 refine ⟨(ks.zip ss).attachWith _ H,?_,?_⟩
 ·have:=List.attachWith_map_subtype_val (l:=ks.zip ss) H
  have e:((ks.zip ss).attachWith _ H).map (·.1.1)=(((ks.zip ss).attachWith _ H).map Subtype.val).map Prod.fst:=by rw [List.map_map];rfl
  rw [e,this,List.map_fst_zip (by omega)]
 ·have:=List.attachWith_map_subtype_val (l:=ks.zip ss) H
  have e:((ks.zip ss).attachWith _ H).map (·.1.2)=(((ks.zip ss).attachWith _ H).map Subtype.val).map Prod.snd:=by rw [List.map_map];rfl
  rw [e,this,List.map_snd_zip (by omega)]
theorem sort_trees {P:Program} {f g E:Nat} (hkit:SortK P f g [] 3)
  (hcmp:∀ (a b:Ex) (w:World) (s t:Value),RdK (cellR (fun _=>False) w) s a.kids→RdK (cellR (fun _=>False) w) t b.kids→CallS P g [.agg #[.int .i64 a.op,.int .i64 a.lt,s],.agg #[.int .i64 b.op,.int .i64 b.lt,t]] w (fun r o=>r = .int .i64 (cmpX a b)∧o=[]))
  (w:World) (F:Nat→Prop) (s:Value) (ks:List Ex) (ss:List Value) (hl:ss.length=ks.length) (hn:1≤ks.length∧ks.length<4611686018427387904) (hA:(row s E 3 ks.length (xcs ks ss)).holds w F)
  (hk:∀ i,i<ks.length→RdK (cellR F w) (ss.getD i undef) (ks.getD i default).kids) :
  CallM P f [s,.func (.func g) #[] #[]] w F (fun r A o=>∃ ss',r = .tuple #[]∧A=row s E 3 ks.length (xcs (sortX ks) ss')∧o=[]∧PSub (sortX ks) ss' ks ss):=by
 obtain ⟨d,e1,e2⟩:=xv_list hl hk
 have hdl:d.length=ks.length:=by rw [← e1];simp
 have h:=sort_call hkit (encX (F:=F) (w:=w)) (fun x=>rfl) (fun x v hv=>by
   simp only [encX,List.mem_cons,List.not_mem_nil,or_false] at hv
   rcases hv with rfl | rfl | rfl
   ·rfl
   ·rfl
   ·exact x.2.sl.one) cfX (swoX F w) w F s E d (by rw [encX_flat,e1,e2,hdl];exact hA) (by omega)
  (fun w' hfr x y=>by
   have:=hcmp x.1.1 y.1.1 w' x.1.2 y.1.2 (x.2.fr hfr).wk (y.2.fr hfr).wk
   refine Calls.mono this ?_
   rintro e w2 ⟨v,own',⟨h1,_⟩,h2,h3⟩
   exact ⟨v,own',h1,h2,h3⟩)
 refine Calls.mono h ?_
 rintro e w' ⟨v,A,own',⟨d',rfl,rfl,rfl,hp,hs⟩,h2,h3⟩
 have hks:d'.map (·.1.1)=sortX ks:=by
  refine sortX_of ?_ ?_
  ·rw [← e1];exact hp.map _
  ·rw [List.pairwise_map];exact hs
 refine ⟨_,_,[],⟨d'.map (·.1.2),rfl,by rw [encX_flat,hks,hdl],rfl,⟨?_,?_,fun k hk'=>?_⟩⟩,h2,h3⟩
 ·rw [← hks];simp
 ·rw [sortX_len];exact Nat.le_refl _
 ·have hk2:k<d'.length:=by rw [← hks] at hk';simpa using hk'
  have hmem:d'[k]∈d:=hp.mem_iff.1 (List.getElem_mem hk2)
  obtain ⟨j,hj,ej⟩:=List.mem_iff_getElem.1 hmem
  refine ⟨j,by omega,?_,?_⟩
  ·rw [← hks,← e1];simp [List.getD_eq_getElem?_getD,hk2,hj,ej]
  ·rw [← e2];simp [List.getD_eq_getElem?_getD,hk2,hj,ej]
structure CpI (ks:List Ex) (ss:List Value) (j i:Nat) (ks':List Ex) (ss':List Value):Prop where
 le:j≤ks.length
 lt:i<j
 i0:0<i
 len:ks'.length=ks.length
 slen:ss'.length=ks'.length
 i_eq:i=(ddG eqX default ks j).length
 pre:ks'.take i=ddG eqX default ks j
 suf:∀ m,i≤m→ks'.getD m default=ks.getD m default∧ss'.getD m undef=ss.getD m undef
 sub:∀ m,m<ks.length→∃ q,q<ks.length∧ks'.getD m default=ks.getD q default∧ss'.getD m undef=ss.getD q undef
section
variable {ks ks' : List Ex} {ss ss' : List Value} {i j k m a : Nat}
theorem CpI.start (hl:ss.length=ks.length) (hk:k<ks.length) (h0:0<k) (hn:∀ i,0<i→i<k→eqX (ks.getD i default) (ks.getD (i - 1) default)=false) (h:eqX (ks.getD k default) (ks.getD (k - 1) default)=true):CpI ks ss (k+1) k ks ss:=by
 have e:ddG eqX default ks (k+1)=ks.take k:=by
  rw [← ddG_all k (by omega) hn];exact if_pos ⟨h0,h⟩
 exact ⟨by omega,by omega,h0,rfl,hl,by rw [e];simp;omega,e.symm,fun m _=>⟨rfl,rfl⟩,fun m hm=>⟨m,hm,rfl,rfl⟩⟩
theorem CpI.rd (h:CpI ks ss j i ks' ss') (h1:i≤m) (h2:a≤m):(ks'.drop a).getD (m - a) default=ks.getD m default∧(ss'.drop a).getD (m - a) undef=ss.getD m undef:=by
 rw [drop_get _ h2,drop_get _ h2];exact h.suf m h1
theorem CpI.keep (h:CpI ks ss j i ks' ss') (hj:j<ks.length) (hp:eqX (ks.getD j default) (ks.getD (j - 1) default)=false):CpI ks ss (j+1) (i+1) (ks'.set i (ks.getD j default)) (ss'.set i (ss.getD j undef)):=by
 have hij:=h.lt;have hl:=h.len;have hsl:=h.slen;have h0:=h.i0
 have e:ddG eqX default ks (j+1)=ddG eqX default ks j++[ks.getD j default]:=if_neg fun hc=>by rw [hp] at hc;cases hc.2
 refine ⟨by omega,by omega,by omega,by simp [hl],by simp [hsl],?_,?_,?_,?_⟩
 ·rw [e,List.length_append,← h.i_eq];rfl
 ·rw [e,← h.pre,List.take_add_one,List.take_set_of_le (by omega)]
  congr 1
  simp [show i<ks'.length by omega]
 ·intro m hm
  rw [getT_set_ne _ (by omega),getT_set_ne _ (by omega)]
  exact h.suf m (by omega)
 ·intro m hm
  by_cases hmi:i=m
  ·subst hmi
   rw [getT_set_eq _ (by omega),getT_set_eq _ (by omega)]
   exact ⟨j,hj,rfl,rfl⟩
  ·rw [getT_set_ne _ hmi,getT_set_ne _ hmi];exact h.sub m hm
theorem CpI.drop (h:CpI ks ss j i ks' ss') (hj:j<ks.length) (hp:eqX (ks.getD j default) (ks.getD (j - 1) default)=true):CpI ks ss (j+1) i ks' ss':=by
 have hij:=h.lt;have h0:=h.i0
 have e:ddG eqX default ks (j+1)=ddG eqX default ks j:=if_pos ⟨by omega,hp⟩
 exact ⟨by omega,by omega,h0,h.len,h.slen,by rw [e];exact h.i_eq,by rw [e];exact h.pre,h.suf,h.sub⟩
theorem CpI.psub (h:CpI ks ss ks.length i ks' ss'):PSub (compX ks) (ss'.take i) ks ss∧ks'.take i=compX ks∧i=(compX ks).length:=by
 have hl:=h.len;have hsl:=h.slen;have hij:=h.lt;have hi:i=(compX ks).length:=h.i_eq
 refine ⟨⟨by simp;omega,compX_len ks,fun k hk=>?_⟩,h.pre,hi⟩
 obtain ⟨q,h1,h2,h3⟩:=h.sub k (by omega)
 refine ⟨q,h1,?_,?_⟩
 ·rw [← h2,show compX ks=ks'.take i from h.pre.symm]
  simp [List.getD_eq_getElem?_getD,List.getElem?_take,show k<i by omega]
 ·rw [← h3];simp [List.getD_eq_getElem?_getD,List.getElem?_take,show k<i by omega]
end
theorem compX_none {ks:List Ex} (h:∀ i,0<i→i<ks.length→eqX (ks.getD i default) (ks.getD (i - 1) default)=false):compX ks=ks:=by
 unfold compX;rw [ddG_all _ (Nat.le_refl _) h,List.take_length]
theorem compX_short {ks:List Ex} (h:ks.length≤1):compX ks=ks:=compX_none fun i h1 h2=>by omega
theorem RdS.xfr {C:Cx} {own:List Asn} {s:Value} {n a:Nat} {ks:List Ex} {ss:List Value} (h:RdS C own s 3 n (xcs ks ss)) (hc:CutS C own s n) (hl:ss.length=ks.length) (ha:a≤n):RdS C own (slFr s 3 a) 3 (n - a) (xcs (ks.drop a) (ss.drop a)):=by
 have:=h.fr hc ha
 rwa [xcs_drop a ks ss hl] at this
theorem sortX_short {ks:List Ex} (h:ks.length=0):sortX ks=ks:=by rw [List.eq_nil_of_length_eq_zero h];rfl
end Go.Sx
namespace Go.Proofs
open Go.Shelf
def Tryz.laysSlF06_f57_ren:Go.Shelf.Ren:=⟨fun | 6=>57 | 15=>110 | 14=>109 | 28=>163 | 29=>164 | 20=>155 | 21=>156 | 22=>157 | 23=>158 | 24=>159 | 25=>160 | 26=>161 | 27=>162 | 46=>179 | 47=>180 | 48=>181 | 49=>182 | 50=>183 | 57=>201 | n=>n,fun | 22=>43 | 24=>98 | 25=>100 | 3=>3 | 39=>130 | 0=>0 | 53=>206 | 55=>42 | 4=>4 | 46=>200 | 45=>199 | 50=>138 | 5=>5 | 9=>9 | 66=>224 | 70=>188 | 76=>240 | 77=>128 | n=>n,fun | n=>n⟩
theorem Tryz.laysSlF06_f57:Go.Proofs.SlLaysF0.n6 Tryz.prog Tryz.laysSlF06_f57_ren:={
 mixed:=by kernel_rfl
 f6:=⟨Tryz.f57.name,by decide,Tryz.func57.trans (congrArg some (by kernel_rfl))⟩
 f14:=⟨Tryz.f109.name,by decide,Tryz.func109.trans (congrArg some (by kernel_rfl))⟩
 f15:=Tryz.func110.trans (congrArg some (by kernel_rfl))
 f20:=⟨Tryz.f155.name,by decide,Tryz.func155.trans (congrArg some (by kernel_rfl))⟩
 f21:=⟨Tryz.f156.name,by decide,Tryz.func156.trans (congrArg some (by kernel_rfl))⟩
 f22:=⟨Tryz.f157.name,by decide,Tryz.func157.trans (congrArg some (by kernel_rfl))⟩
 f23:=⟨Tryz.f158.name,by decide,Tryz.func158.trans (congrArg some (by kernel_rfl))⟩
 f24:=⟨Tryz.f159.name,by decide,Tryz.func159.trans (congrArg some (by kernel_rfl))⟩
 f25:=⟨Tryz.f160.name,by decide,Tryz.func160.trans (congrArg some (by kernel_rfl))⟩
 f26:=⟨Tryz.f161.name,by decide,Tryz.func161.trans (congrArg some (by kernel_rfl))⟩
 f27:=⟨Tryz.f162.name,by decide,Tryz.func162.trans (congrArg some (by kernel_rfl))⟩
 f28:=Tryz.func163.trans (congrArg some (by kernel_rfl))
 f29:=Tryz.func164.trans (congrArg some (by kernel_rfl))
 f46:=⟨Tryz.f179.name,by decide,Tryz.func179.trans (congrArg some (by kernel_rfl))⟩
 f47:=Tryz.func180.trans (congrArg some (by kernel_rfl))
 f48:=Tryz.func181.trans (congrArg some (by kernel_rfl))
 f49:=⟨Tryz.f182.name,by decide,Tryz.func182.trans (congrArg some (by kernel_rfl))⟩
 f50:=⟨Tryz.f183.name,by decide,Tryz.func183.trans (congrArg some (by kernel_rfl))⟩
 f57:=⟨Tryz.f201.name,by decide,Tryz.func201.trans (congrArg some (by kernel_rfl))⟩
 t0:=Tryz.underlying0
 a0:=Tryz.isAgg0
 z0:=Tryz.sizeOf0
 v0:=Tryz.zeroValue0
 t3:=Tryz.underlying3
 a3:=Tryz.isAgg3
 z3:=Tryz.sizeOf3
 v3:=Tryz.zeroValue3
 t4:=Tryz.underlying4
 a4:=Tryz.isAgg4
 z4:=Tryz.sizeOf4
 v4:=Tryz.zeroValue4
 t5:=Tryz.underlying5
 a5:=Tryz.isAgg5
 z5:=Tryz.sizeOf5
 v5:=Tryz.zeroValue5
 t9:=Tryz.underlying9
 a9:=Tryz.isAgg9
 z9:=Tryz.sizeOf9
 v9:=Tryz.zeroValue9
 t22:=Tryz.underlying43
 a22:=Tryz.isAgg43
 z22:=Tryz.sizeOf43
 v22:=Tryz.zeroValue43
 t25:=Tryz.underlying100
 a25:=Tryz.isAgg100
 z25:=Tryz.sizeOf100
 v25:=Tryz.zeroValue100
 t39:=Tryz.underlying130
 a39:=Tryz.isAgg130
 z39:=Tryz.sizeOf130
 v39:=Tryz.zeroValue130
 t45:=Tryz.underlying199
 a45:=Tryz.isAgg199
 z45:=Tryz.sizeOf199
 v45:=Tryz.zeroValue199
 t46:=Tryz.underlying200
 a46:=Tryz.isAgg200
 z46:=Tryz.sizeOf200
 v46:=Tryz.zeroValue200
 t50:=Tryz.underlying138
 a50:=Tryz.isAgg138
 z50:=Tryz.sizeOf138
 v50:=Tryz.zeroValue138
 t53:=Tryz.underlying206
 a53:=Tryz.isAgg206
 z53:=Tryz.sizeOf206
 v53:=Tryz.zeroValue206
 t55:=Tryz.underlying42
 a55:=Tryz.isAgg42
 z55:=Tryz.sizeOf42
 v55:=Tryz.zeroValue42
 t66:=Tryz.underlying224
 a66:=Tryz.isAgg224
 z66:=Tryz.sizeOf224
 v66:=Tryz.zeroValue224
 t70:=Tryz.underlying188
 a70:=Tryz.isAgg188
 z70:=Tryz.sizeOf188
 v70:=Tryz.zeroValue188
 t76:=Tryz.underlying240
 a76:=Tryz.isAgg240
 z76:=Tryz.sizeOf240
 v76:=Tryz.zeroValue240
 t77:=Tryz.underlying128
 a77:=Tryz.isAgg128
 z77:=Tryz.sizeOf128
 v77:=Tryz.zeroValue128 }
def Tryz.laysSlF06_f126_ren:Go.Shelf.Ren:=⟨fun | 6=>126 | 15=>110 | 14=>168 | 28=>163 | 29=>164 | 20=>184 | 21=>185 | 22=>186 | 23=>187 | 24=>188 | 25=>189 | 26=>190 | 27=>191 | 46=>202 | 47=>180 | 48=>181 | 49=>203 | 50=>204 | 57=>207 | n=>n,fun | 22=>22 | 24=>24 | 25=>118 | 3=>3 | 39=>130 | 0=>0 | 53=>206 | 55=>42 | 4=>4 | 46=>200 | 45=>199 | 50=>138 | 5=>5 | 9=>9 | 66=>224 | 70=>188 | 76=>240 | 77=>128 | n=>n,fun | n=>n⟩
theorem Tryz.laysSlF06_f126:Go.Proofs.SlLaysF0.n6 Tryz.prog Tryz.laysSlF06_f126_ren:={
 mixed:=by kernel_rfl
 f6:=⟨Tryz.f126.name,by decide,Tryz.func126.trans (congrArg some (by kernel_rfl))⟩
 f14:=⟨Tryz.f168.name,by decide,Tryz.func168.trans (congrArg some (by kernel_rfl))⟩
 f15:=Tryz.func110.trans (congrArg some (by kernel_rfl))
 f20:=⟨Tryz.f184.name,by decide,Tryz.func184.trans (congrArg some (by kernel_rfl))⟩
 f21:=⟨Tryz.f185.name,by decide,Tryz.func185.trans (congrArg some (by kernel_rfl))⟩
 f22:=⟨Tryz.f186.name,by decide,Tryz.func186.trans (congrArg some (by kernel_rfl))⟩
 f23:=⟨Tryz.f187.name,by decide,Tryz.func187.trans (congrArg some (by kernel_rfl))⟩
 f24:=⟨Tryz.f188.name,by decide,Tryz.func188.trans (congrArg some (by kernel_rfl))⟩
 f25:=⟨Tryz.f189.name,by decide,Tryz.func189.trans (congrArg some (by kernel_rfl))⟩
 f26:=⟨Tryz.f190.name,by decide,Tryz.func190.trans (congrArg some (by kernel_rfl))⟩
 f27:=⟨Tryz.f191.name,by decide,Tryz.func191.trans (congrArg some (by kernel_rfl))⟩
 f28:=Tryz.func163.trans (congrArg some (by kernel_rfl))
 f29:=Tryz.func164.trans (congrArg some (by kernel_rfl))
 f46:=⟨Tryz.f202.name,by decide,Tryz.func202.trans (congrArg some (by kernel_rfl))⟩
 f47:=Tryz.func180.trans (congrArg some (by kernel_rfl))
 f48:=Tryz.func181.trans (congrArg some (by kernel_rfl))
 f49:=⟨Tryz.f203.name,by decide,Tryz.func203.trans (congrArg some (by kernel_rfl))⟩
 f50:=⟨Tryz.f204.name,by decide,Tryz.func204.trans (congrArg some (by kernel_rfl))⟩
 f57:=⟨Tryz.f207.name,by decide,Tryz.func207.trans (congrArg some (by kernel_rfl))⟩
 t0:=Tryz.underlying0
 a0:=Tryz.isAgg0
 z0:=Tryz.sizeOf0
 v0:=Tryz.zeroValue0
 t3:=Tryz.underlying3
 a3:=Tryz.isAgg3
 z3:=Tryz.sizeOf3
 v3:=Tryz.zeroValue3
 t4:=Tryz.underlying4
 a4:=Tryz.isAgg4
 z4:=Tryz.sizeOf4
 v4:=Tryz.zeroValue4
 t5:=Tryz.underlying5
 a5:=Tryz.isAgg5
 z5:=Tryz.sizeOf5
 v5:=Tryz.zeroValue5
 t9:=Tryz.underlying9
 a9:=Tryz.isAgg9
 z9:=Tryz.sizeOf9
 v9:=Tryz.zeroValue9
 t22:=Tryz.underlying22
 a22:=Tryz.isAgg22
 z22:=Tryz.sizeOf22
 v22:=Tryz.zeroValue22
 t25:=Tryz.underlying118
 a25:=Tryz.isAgg118
 z25:=Tryz.sizeOf118
 v25:=Tryz.zeroValue118
 t39:=Tryz.underlying130
 a39:=Tryz.isAgg130
 z39:=Tryz.sizeOf130
 v39:=Tryz.zeroValue130
 t45:=Tryz.underlying199
 a45:=Tryz.isAgg199
 z45:=Tryz.sizeOf199
 v45:=Tryz.zeroValue199
 t46:=Tryz.underlying200
 a46:=Tryz.isAgg200
 z46:=Tryz.sizeOf200
 v46:=Tryz.zeroValue200
 t50:=Tryz.underlying138
 a50:=Tryz.isAgg138
 z50:=Tryz.sizeOf138
 v50:=Tryz.zeroValue138
 t53:=Tryz.underlying206
 a53:=Tryz.isAgg206
 z53:=Tryz.sizeOf206
 v53:=Tryz.zeroValue206
 t55:=Tryz.underlying42
 a55:=Tryz.isAgg42
 z55:=Tryz.sizeOf42
 v55:=Tryz.zeroValue42
 t66:=Tryz.underlying224
 a66:=Tryz.isAgg224
 z66:=Tryz.sizeOf224
 v66:=Tryz.zeroValue224
 t70:=Tryz.underlying188
 a70:=Tryz.isAgg188
 z70:=Tryz.sizeOf188
 v70:=Tryz.zeroValue188
 t76:=Tryz.underlying240
 a76:=Tryz.isAgg240
 z76:=Tryz.sizeOf240
 v76:=Tryz.zeroValue240
 t77:=Tryz.underlying128
 a77:=Tryz.isAgg128
 z77:=Tryz.sizeOf128
 v77:=Tryz.zeroValue128 }
open Go.RowKit Go.Lib Go.Sort in
theorem Tryz.slices_SortFunc_f57 {α:Type} [Inhabited α] (k:Nat) (aE:∀ w,(isAgg 98).run Tryz.prog w = .ok true w) (zE:∀ w,(Go.sizeOf 98).run Tryz.prog w = .ok k w) (enc:α→List Value) (hk:∀ x,(enc x).length=k) (h1:∀ x,∀ v∈enc x,v.oneCell'=true) (cf:α→α→Int) (hO:SWO (ltOf cf)) (g:Nat) (cb:Array Value) (blk off cap:Nat) (d:Array α) (w:World) (eg:∀ args w,(callFunc g args).run Tryz.prog w = .ok (.enter g args) w) (hcmp:CmpLays Tryz.prog g cb enc k cf blk off d.size w) (hH:HoldsK enc k w blk off d) (hblk:blk<w.heap.size) (hsz:d.size<4611686018427387904) :
 Calls Tryz.prog 57 #[.slice (some ⟨blk,off,none⟩) d.size cap,.func (.func g) #[] cb] w fun e w'=>
  e = .returned (.tuple #[])∧∃ d' n os,PermIn 0 d.size d d'∧SortedIn (ltOf cf) 0 d.size d'∧w'=sortWorldK enc k w blk off n d' os:=AnyQ.slices_SortFunc Tryz.laysSlF06_f57 k aE zE enc hk h1 cf hO g cb blk off cap d w eg hcmp hH hblk hsz
open Go.RowKit Go.Lib Go.Sort in
theorem Tryz.slices_SortFunc_f126 {α:Type} [Inhabited α] (k:Nat) (aE:∀ w,(isAgg 24).run Tryz.prog w = .ok true w) (zE:∀ w,(Go.sizeOf 24).run Tryz.prog w = .ok k w) (enc:α→List Value) (hk:∀ x,(enc x).length=k) (h1:∀ x,∀ v∈enc x,v.oneCell'=true) (cf:α→α→Int) (hO:SWO (ltOf cf)) (g:Nat) (cb:Array Value) (blk off cap:Nat) (d:Array α) (w:World) (eg:∀ args w,(callFunc g args).run Tryz.prog w = .ok (.enter g args) w) (hcmp:CmpLays Tryz.prog g cb enc k cf blk off d.size w) (hH:HoldsK enc k w blk off d) (hblk:blk<w.heap.size) (hsz:d.size<4611686018427387904) :
 Calls Tryz.prog 126 #[.slice (some ⟨blk,off,none⟩) d.size cap,.func (.func g) #[] cb] w fun e w'=>
  e = .returned (.tuple #[])∧∃ d' n os,PermIn 0 d.size d d'∧SortedIn (ltOf cf) 0 d.size d'∧w'=sortWorldK enc k w blk off n d' os:=AnyQ.slices_SortFunc Tryz.laysSlF06_f126 k aE zE enc hk h1 cf hO g cb blk off cap d w eg hcmp hH hblk hsz
end Go.Proofs
