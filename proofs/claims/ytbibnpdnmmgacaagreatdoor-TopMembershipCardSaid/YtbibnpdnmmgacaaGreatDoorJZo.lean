import Derived.Test.YtbibnpdnmmgacaaGreatDoorJZn
import Derived.Test.YtbibnpdnmmgacaaGreatDoorJZe
import Derived.Test.YtbibnpdnmmgacaaGreatDoorJZg
import Derived.Test.YtbibnpdnmmgacaaGreatDoorJZm
import Derived.Test.YtbibnpdnmmgacaaGreatDoorJZf
set_option linter.unusedVariables false
set_option linter.unusedSimpArgs false
set_option maxRecDepth 100000
namespace Go.Sx
def hW (ws:List (List UInt8)) (u:List UInt8):List UInt8:=u.flatMap fun c=>ws.getD ((c.toNat:Int) - 97).toNat []
def inr (ws:List (List UInt8)):Nat→Nat
 | 0=>0
 | x+1=>inr ws x+((ws.getD x []).length - 1)
section
variable {m : Dfa} {M : Int} {ws : List (List UInt8)}
end
end Go.Sx
namespace Go.Proofs.YtbibnpdnmmgacaaGreatDoor
open Go.Sx Go.RowKit
end Go.Proofs.YtbibnpdnmmgacaaGreatDoor
namespace Go.Sx
inductive StarL (L:List UInt8→Prop):List UInt8→Prop
 | nil:StarL L []
 | cons {u v:List UInt8} (h:L u) (t:StarL L v):StarL L (u++v)
mutual
def LE:Ex→List UInt8→Prop
 | .mk op lt ks,w=>if op=2 then w=[] else if op=3 then ∃ c:UInt8,w=[c]∧(c.toNat:Int) - 97=lt else if op=4 then LEany ks w else if op=5 then LEcat ks w
  else if op=6 then LEall ks w else if op=7 then StarL (LEany ks) w else if op=8 then ¬ LEany ks w else False
def LEany:List Ex→List UInt8→Prop
 | [],_=>False
 | k :: ks,w=>LE k w∨LEany ks w
def LEall:List Ex→List UInt8→Prop
 | [],_=>True
 | k :: ks,w=>LE k w∧LEall ks w
def LEcat:List Ex→List UInt8→Prop
 | [],w=>w=[]
 | k :: ks,w=>∃ u v,w=u++v∧LE k u∧LEcat ks v
end
def SamL (L M:List UInt8→Prop):Prop:=∀ w,L w↔M w
theorem SamL.rfl {L:List UInt8→Prop}:SamL L L:=fun _=>Iff.rfl
theorem LEany_iff:∀ {ks:List Ex} {w:List UInt8},LEany ks w↔∃ k∈ks,LE k w
 | [],w=>by simp [LEany]
 | k :: ks,w=>by simp [LEany,LEany_iff (ks:=ks)]
theorem LEall_iff:∀ {ks:List Ex} {w:List UInt8},LEall ks w↔∀ k∈ks,LE k w
 | [],w=>by simp [LEall]
 | k :: ks,w=>by simp [LEall,LEall_iff (ks:=ks)]
theorem LEcat_app:∀ {ks ls:List Ex} {w:List UInt8},LEcat (ks++ls) w↔∃ u v,w=u++v∧LEcat ks u∧LEcat ls v
 | [],ls,w=>by
  simp only [LEcat,List.nil_append]
  exact ⟨fun h=>⟨[],w,rfl,rfl,h⟩,fun ⟨u,v,e,h1,h2⟩=>by subst h1;rw [e];exact h2⟩
 | k :: ks,ls,w=>by
  simp only [List.cons_append,LEcat,LEcat_app (ks:=ks)]
  constructor
  ·rintro ⟨u,v,rfl,h1,u2,v2,rfl,h2,h3⟩
   exact ⟨u++u2,v2,by simp,⟨u,u2,rfl,h1,h2⟩,h3⟩
  ·rintro ⟨u,v,rfl,⟨u1,u2,rfl,h1,h2⟩,h3⟩
   exact ⟨u1,u2++v,by simp,h1,u2,v,rfl,h2,h3⟩
theorem LEcat_one {k:Ex} {w:List UInt8}:LEcat [k] w↔LE k w:=by
 simp only [LEcat]
 constructor
 ·rintro ⟨u,v,rfl,h,rfl⟩;rw [List.append_nil];exact h
 ·intro h;exact ⟨w,[],by simp,h,rfl⟩
theorem LE1 {e:Ex} (h:e.op=1) (w:List UInt8):LE e w↔False:=by obtain ⟨op,lt,ks⟩:=e;cases h;simp [LE]
theorem LE2 {e:Ex} (h:e.op=2) (w:List UInt8):LE e w↔w=[]:=by obtain ⟨op,lt,ks⟩:=e;cases h;simp [LE]
theorem LE4 {e:Ex} (h:e.op=4) (w:List UInt8):LE e w↔LEany e.kids w:=by obtain ⟨op,lt,ks⟩:=e;cases h;simp [LE,Ex.kids]
theorem LE5 {e:Ex} (h:e.op=5) (w:List UInt8):LE e w↔LEcat e.kids w:=by obtain ⟨op,lt,ks⟩:=e;cases h;simp [LE,Ex.kids]
theorem LE6 {e:Ex} (h:e.op=6) (w:List UInt8):LE e w↔LEall e.kids w:=by obtain ⟨op,lt,ks⟩:=e;cases h;simp [LE,Ex.kids]
theorem LE7 {e:Ex} (h:e.op=7) (w:List UInt8):LE e w↔StarL (LEany e.kids) w:=by obtain ⟨op,lt,ks⟩:=e;cases h;simp [LE,Ex.kids]
theorem LE8 {e:Ex} (h:e.op=8) (w:List UInt8):LE e w↔¬ LEany e.kids w:=by obtain ⟨op,lt,ks⟩:=e;cases h;simp [LE,Ex.kids]
theorem LEany_one {k:Ex} {w:List UInt8}:LEany [k] w↔LE k w:=by simp [LEany]
theorem isUniv_L {e:Ex} (h:isUnivE e=true) (w:List UInt8):LE e w:=by
 unfold isUnivE at h
 simp only [Bool.and_eq_true,beq_iff_eq] at h
 obtain ⟨⟨h1,h2⟩,h3⟩:=h
 rw [LE8 h1]
 obtain ⟨k,hk⟩:=List.length_eq_one_iff.1 h2
 rw [hk] at h3 ⊢
 rw [LEany_one]
 have:k.op=1:=by simpa [isEmptyE] using h3
 rw [LE1 this];exact id
theorem isEmpty_L {e:Ex} (h:isEmptyE e=true) (w:List UInt8):¬ LE e w:=by rw [LE1 (by simpa [isEmptyE] using h)];exact id
theorem isUnit_L {e:Ex} (h:isUnitE e=true) (w:List UInt8):LE e w↔w=[]:=LE2 (by simpa [isUnitE] using h) w
theorem univE_L (w:List UInt8):LE univE w:=isUniv_L (by decide) w
theorem emptyE_L (w:List UInt8):¬ LE emptyE w:=isEmpty_L (by decide) w
theorem unitE_L (w:List UInt8):LE unitE w↔w=[]:=isUnit_L (by decide) w
theorem flat4_L (ks:List Ex) (w:List UInt8):LEany (flatE 4 ks) w↔LEany ks w:=by
 rw [LEany_iff,LEany_iff]
 unfold flatE
 simp only [List.mem_flatMap]
 constructor
 ·rintro ⟨x,⟨k,hk,hx⟩,hw⟩
  split at hx
  ·rename_i h;exact ⟨k,hk,(LE4 h w).2 (LEany_iff.2 ⟨x,hx,hw⟩)⟩
  ·simp at hx;subst hx;exact ⟨x,hk,hw⟩
 ·rintro ⟨k,hk,hw⟩
  by_cases h:k.op=4
  ·rw [LE4 h,LEany_iff] at hw
   obtain ⟨x,hx,hw⟩:=hw
   exact ⟨x,⟨k,hk,by rw [if_pos h];exact hx⟩,hw⟩
  ·exact ⟨k,⟨k,hk,by rw [if_neg h];simp⟩,hw⟩
theorem flat6_L (ks:List Ex) (w:List UInt8):LEall (flatE 6 ks) w↔LEall ks w:=by
 rw [LEall_iff,LEall_iff]
 unfold flatE
 simp only [List.mem_flatMap]
 constructor
 ·intro H k hk
  by_cases h:k.op=6
  ·rw [LE6 h,LEall_iff]
   exact fun x hx=>H x ⟨k,hk,by rw [if_pos h];exact hx⟩
  ·exact H k ⟨k,hk,by rw [if_neg h];simp⟩
 ·rintro H x ⟨k,hk,hx⟩
  split at hx
  ·rename_i h
   have:=H k hk
   rw [LE6 h,LEall_iff] at this
   exact this x hx
  ·simp at hx;subst hx;exact H x hk
theorem flat5_L:∀ (ks:List Ex) (w:List UInt8),LEcat (flatE 5 ks) w↔LEcat ks w
 | [],w=>by simp [flatE,LEcat]
 | k :: ks,w=>by
  have e:flatE 5 (k :: ks)=(if k.op=5 then k.kids else [k])++flatE 5 ks:=by simp [flatE]
  rw [e,LEcat_app]
  simp only [LEcat]
  have ih:=flat5_L ks
  constructor
  ·rintro ⟨u,v,rfl,h1,h2⟩
   refine ⟨u,v,rfl,?_,(ih v).1 h2⟩
   split at h1
   ·rename_i h;exact (LE5 h u).2 h1
   ·exact LEcat_one.1 h1
  ·rintro ⟨u,v,rfl,h1,h2⟩
   refine ⟨u,v,rfl,?_,(ih v).2 h2⟩
   split
   ·rename_i h;exact (LE5 h u).1 h1
   ·exact LEcat_one.2 h1
theorem collect4_L {ps:List Ex} {w:List UInt8}:LE (collectE 4 ps emptyE) w↔LEany ps w:=by
 match ps with
 | []=>simp [collectE,LEany,emptyE_L]
 | [p]=>simp [collectE,LEany]
 | a :: b :: l=>show LE (.mk 4 0 _) w↔_;rw [LE4 rfl];rfl
theorem collect5_L {ps:List Ex} {w:List UInt8}:LE (collectE 5 ps unitE) w↔LEcat ps w:=by
 match ps with
 | []=>simp only [collectE,LEcat];exact unitE_L w
 | [p]=>simp only [collectE];exact LEcat_one.symm
 | a :: b :: l=>show LE (.mk 5 0 _) w↔_;rw [LE5 rfl];rfl
theorem collect6_L {ps:List Ex} {w:List UInt8}:LE (collectE 6 ps univE) w↔LEall ps w:=by
 match ps with
 | []=>simp [collectE,LEall,univE_L]
 | [p]=>simp [collectE,LEall]
 | a :: b :: l=>show LE (.mk 6 0 _) w↔_;rw [LE6 rfl];rfl
theorem LEcat_empty:∀ {ks:List Ex} {w:List UInt8},ks.any isEmptyE=true→¬ LEcat ks w
 | [],w,h=>by simp at h
 | k :: ks,w,h=>by
  rw [List.any_cons,Bool.or_eq_true] at h
  rintro ⟨u,v,rfl,h1,h2⟩
  rcases h with h | h
  ·exact isEmpty_L h u h1
  ·exact LEcat_empty h h2
theorem LEcat_filter:∀ {ks:List Ex} {w:List UInt8},LEcat (ks.filter fun e=>!isUnitE e) w↔LEcat ks w
 | [],w=>by simp
 | k :: ks,w=>by
  have ih:=fun w=>LEcat_filter (ks:=ks) (w:=w)
  rw [List.filter_cons]
  split
  ·simp only [LEcat,ih]
  ·rename_i h
   have hu:isUnitE k=true:=by simpa using h
   rw [ih]
   simp only [LEcat]
   constructor
   ·intro h2;exact ⟨[],w,rfl,(isUnit_L hu []).2 rfl,h2⟩
   ·rintro ⟨u,v,rfl,h1,h2⟩
    rw [isUnit_L hu] at h1;subst h1;exact h2
theorem joinU_L {ks:List Ex} {j:Ex} (h:joinU ks=some j) (w:List UInt8):LE j w↔LEany ks w:=by
 unfold joinU at h
 split at h
 ·rename_i hu
  cases h
  obtain ⟨k,hk,h2⟩:=List.any_eq_true.1 hu
  exact ⟨fun _=>LEany_iff.2 ⟨k,hk,isUniv_L h2 w⟩,fun _=>univE_L w⟩
 ·obtain ⟨p,hp,h⟩:=Option.bind_eq_some_iff.1 h
  obtain ⟨rfl,_⟩:=lim_some hp
  obtain ⟨q,hq,h⟩:=Option.bind_eq_some_iff.1 h
  cases h
  rw [collect4_L,← flat4_L ks,LEany_iff,LEany_iff]
  constructor
  ·rintro ⟨k,hk,h⟩
   rw [mem_ordE hq,List.mem_filter] at hk
   exact ⟨k,hk.1,h⟩
  ·rintro ⟨k,hk,h⟩
   refine ⟨k,(mem_ordE hq).2 (List.mem_filter.2 ⟨hk,?_⟩),h⟩
   cases he:isEmptyE k with
   | false=>rfl
   | true=>exact absurd h (isEmpty_L he w)
theorem joinA_L {ks:List Ex} {j:Ex} (h:joinA ks=some j) (w:List UInt8):LE j w↔LEall ks w:=by
 unfold joinA at h
 split at h
 ·rename_i hu
  cases h
  obtain ⟨k,hk,h2⟩:=List.any_eq_true.1 hu
  exact ⟨fun h=>absurd h (emptyE_L w),fun h=>absurd (LEall_iff.1 h k hk) (isEmpty_L h2 w)⟩
 ·obtain ⟨p,hp,h⟩:=Option.bind_eq_some_iff.1 h
  obtain ⟨rfl,_⟩:=lim_some hp
  obtain ⟨q,hq,h⟩:=Option.bind_eq_some_iff.1 h
  cases h
  rw [collect6_L,← flat6_L ks,LEall_iff,LEall_iff]
  constructor
  ·intro H k hk
   cases he:isUnivE k with
   | true=>exact isUniv_L he w
   | false=>exact H k ((mem_ordE hq).2 (List.mem_filter.2 ⟨hk,by rw [he];rfl⟩))
  ·intro H k hk
   rw [mem_ordE hq,List.mem_filter] at hk
   exact H k hk.1
theorem joinC_L {ks:List Ex} {j:Ex} (h:joinC ks=some j) (w:List UInt8):LE j w↔LEcat ks w:=by
 unfold joinC at h
 split at h
 ·rename_i hu
  cases h
  exact ⟨fun h=>absurd h (emptyE_L w),fun h=>absurd h (LEcat_empty hu)⟩
 ·obtain ⟨p,hp,h⟩:=Option.bind_eq_some_iff.1 h
  obtain ⟨rfl,_⟩:=lim_some hp
  cases h
  rw [collect5_L,LEcat_filter,flat5_L]
theorem StarL.app {L:List UInt8→Prop} {u v:List UInt8} (h:StarL L u) (k:StarL L v):StarL L (u++v):=by
 induction h with
 | nil=>exact k
 | cons h t ih=>rw [List.append_assoc];exact .cons h ih
theorem StarL.mono {L M:List UInt8→Prop} (hm:∀ w,L w→M w) {u:List UInt8} (h:StarL L u):StarL M u:=by
 induction h with
 | nil=>exact .nil
 | cons h t ih=>exact .cons (hm _ h) ih
theorem StarL.one {L:List UInt8→Prop} {u:List UInt8} (h:L u):StarL L u:=by have:=StarL.cons h (.nil (L:=L));rwa [List.append_nil] at this
theorem StarL.star {L:List UInt8→Prop} {u:List UInt8} (h:StarL (StarL L) u):StarL L u:=by
 induction h with
 | nil=>exact .nil
 | cons h t ih=>exact h.app ih
theorem StarL.same {L M:List UInt8→Prop} (h:SamL L M):SamL (StarL L) (StarL M):=fun w=>⟨StarL.mono fun w=>(h w).1,StarL.mono fun w=>(h w).2⟩
theorem star_L {k:Ex} (w:List UInt8):LE (join1 7 k) w↔StarL (LE k) w:=by
 unfold join1
 rw [if_neg (by decide),if_pos rfl]
 split
 ·rename_i h
  rw [unitE_L]
  constructor
  ·rintro rfl;exact .nil
  ·intro hs
   induction hs with
   | nil=>rfl
   | cons h1 t ih=>
    rcases h with h | h
    ·rw [LE1 h] at h1;exact h1.elim
    ·rw [LE2 h] at h1;subst h1;exact ih
 ·split
  ·rename_i h
   rcases h with h | h
   ·constructor
    ·exact StarL.one
    ·intro hs
     rw [LE7 h]
     exact (StarL.mono (fun w hw=>(LE7 h w).1 hw) hs).star
   ·exact ⟨fun _=>StarL.one (isUniv_L h w),fun _=>isUniv_L h w⟩
  ·rw [LE7 rfl]
   exact StarL.same (fun w=>LEany_one) w
theorem not_L {k:Ex} (w:List UInt8):LE (join1 8 k) w↔¬ LE k w:=by
 unfold join1
 rw [if_pos rfl]
 split
 ·rename_i h
  rw [LE8 h.1]
  obtain ⟨q,hq⟩:=List.length_eq_one_iff.1 h.2
  rw [hq,LEany_one,Classical.not_not]
  rfl
 ·rw [LE8 rfl]
  show ¬ LEany [k] w↔_
  rw [LEany_one]
def nodeL (op:Int) (ks:List Ex) (w:List UInt8):Prop:=if op=4 then LEany ks w else if op=5 then LEcat ks w else if op=6 then LEall ks w else if op=7 then StarL (LEany ks) w else ¬ LEany ks w
theorem joinE_L {op:Int} {ks:List Ex} {j:Ex} (h:joinE op ks=some j) (ho:op=4∨op=5∨op=6∨(op=7∨op=8)∧ks.length=1) (w:List UInt8):LE j w↔nodeL op ks w:=by
 unfold joinE at h
 rcases ho with rfl | rfl | rfl | ⟨ho,hl⟩
 ·exact joinU_L h w
 ·exact joinC_L h w
 ·exact joinA_L h w
 ·obtain ⟨k,rfl⟩:=List.length_eq_one_iff.1 hl
  rcases ho with rfl | rfl
  ·simp only [show (7:Int) ≠ 4 by decide,show (7:Int) ≠ 5 by decide,show (7:Int) ≠ 6 by decide,if_false,List.length_singleton,if_true] at h
   cases h
   show LE (join1 7 k) w↔StarL (LEany [k]) w
   rw [star_L]
   exact StarL.same (fun w=>LEany_one.symm) w
  ·simp only [show (8:Int) ≠ 4 by decide,show (8:Int) ≠ 5 by decide,show (8:Int) ≠ 6 by decide,if_false,List.length_singleton,if_true] at h
   cases h
   show LE (join1 8 k) w↔¬ LEany [k] w
   rw [not_L,LEany_one]
inductive Sam2:List Ex→List Ex→Prop
 | nil:Sam2 [] []
 | cons {a b:Ex} {l m:List Ex} (h:SamL (LE a) (LE b)) (t:Sam2 l m):Sam2 (a :: l) (b :: m)
theorem Sam2.any {l m:List Ex} (h:Sam2 l m):SamL (LEany l) (LEany m):=by
 induction h with
 | nil=>exact .rfl
 | cons h t ih=>intro w;simp only [LEany];rw [h w,ih w]
theorem Sam2.all {l m:List Ex} (h:Sam2 l m):SamL (LEall l) (LEall m):=by
 induction h with
 | nil=>exact .rfl
 | cons h t ih=>intro w;simp only [LEall];rw [h w,ih w]
theorem Sam2.cat {l m:List Ex} (h:Sam2 l m):SamL (LEcat l) (LEcat m):=by
 induction h with
 | nil=>exact .rfl
 | cons h t ih=>
  intro w;simp only [LEcat]
  constructor
  ·rintro ⟨u,v,e,h1,h2⟩;exact ⟨u,v,e,(h u).1 h1,(ih v).1 h2⟩
  ·rintro ⟨u,v,e,h1,h2⟩;exact ⟨u,v,e,(h u).2 h1,(ih v).2 h2⟩
theorem Sam2.node {l m:List Ex} (h:Sam2 l m) (op:Int):SamL (nodeL op l) (nodeL op m):=by
 intro w;unfold nodeL
 split
 ·exact h.any w
 ·split
  ·exact h.cat w
  ·split
   ·exact h.all w
   ·split
    ·exact StarL.same h.any w
    ·rw [h.any w]
theorem LE_node {op lt:Int} {ks:List Ex} (ho:op=4∨op=5∨op=6∨op=7∨op=8) (w:List UInt8):LE (.mk op lt ks) w↔nodeL op ks w:=by
 rcases ho with rfl | rfl | rfl | rfl | rfl
 ·exact LE4 rfl w
 ·exact LE5 rfl w
 ·exact LE6 rfl w
 ·exact LE7 rfl w
 ·exact LE8 rfl w
theorem wf_mono {n m:Int} (hnm:n≤m) (e:Ex):wfE n e=true→wfE m e=true:=by
 induction e using Ex.indL with
 | _ op lt ks ih=>
  intro h
  rcases wf_cases h with ⟨rfl,rfl,h1,h2⟩ | ⟨rfl,h9⟩
  ·rw [wfE_mk];simp [h1];omega
  ·rw [wfE_mk]
   have hall:(∀ k∈ks,wfE n k=true)→ks.all (wfE m)=true:=fun h=>List.all_eq_true.2 fun k hk=>ih k hk (h k hk)
   rcases h9 with ⟨rfl | rfl,rfl⟩ | ⟨rfl | rfl | rfl,h1,h2⟩ | ⟨rfl | rfl,h1,h2⟩ <;> simp_all
theorem hasU_L (n:Int) (e:Ex):wfE n e=true→(hasU e=true↔LE e []):=by
 induction e using Ex.indL with
 | _ op lt ks ih=>
  intro h
  rw [hasU_eq]
  simp only [Ex.op,Ex.kids]
  have hcat:∀ ks:List Ex,LEcat ks []↔LEall ks []:=fun ks=>by
   induction ks with
   | nil=>simp [LEcat,LEall]
   | cons k ks ihk=>
    simp only [LEcat,LEall]
    constructor
    ·rintro ⟨u,v,e,h1,h2⟩
     have e:=List.append_eq_nil_iff.1 e.symm
     obtain ⟨rfl,rfl⟩:=e
     exact ⟨h1,ihk.1 h2⟩
    ·rintro ⟨h1,h2⟩;exact ⟨[],[],rfl,h1,ihk.2 h2⟩
  have hany:(∀ k∈ks,wfE n k=true)→(ks.any hasU=true↔LEany ks []):=fun hk=>by
   rw [List.any_eq_true,LEany_iff]
   exact ⟨fun ⟨k,h1,h2⟩=>⟨k,h1,(ih k h1 (hk k h1)).1 h2⟩,fun ⟨k,h1,h2⟩=>⟨k,h1,(ih k h1 (hk k h1)).2 h2⟩⟩
  have hall:(∀ k∈ks,wfE n k=true)→(ks.all hasU=true↔LEall ks []):=fun hk=>by
   rw [List.all_eq_true,LEall_iff]
   exact ⟨fun h k h1=>(ih k h1 (hk k h1)).1 (h k h1),fun h k h1=>(ih k h1 (hk k h1)).2 (h k h1)⟩
  rcases wf_cases h with ⟨rfl,rfl,h1,h2⟩ | ⟨rfl,h9⟩
  ·simp [LE]
  ·rcases h9 with ⟨rfl | rfl,rfl⟩ | ⟨rfl | rfl | rfl,h1,h2⟩ | ⟨rfl | rfl,h1,h2⟩
   ·simp [LE]
   ·simp [LE]
   ·rw [LE4 rfl];simpa [Ex.kids] using hany h2
   ·rw [LE5 rfl];simpa [Ex.kids,hcat] using hall h2
   ·rw [LE6 rfl];simpa [Ex.kids] using hall h2
   ·rw [LE7 rfl];simp;exact .nil
   ·rw [LE8 rfl]
    obtain ⟨k,rfl⟩:=List.length_eq_one_iff.1 h1
    have:=hany h2
    simp only [List.any_cons,List.any_nil,Bool.or_false] at this
    simp only [Ex.kids,List.length_singleton,BEq.rfl,Bool.true_and]
    simp only [show (8:Int) ≠ 2 by decide,show (8:Int) ≠ 7 by decide,show (8:Int) ≠ 4 by decide,show (8:Int) ≠ 5 by decide,show (8:Int) ≠ 6 by decide,or_self,if_false,if_true,List.getD_cons_zero]
    rw [← this];simp
end Go.Sx
namespace Go.Sx
mutual
def szE:Ex→Nat
 | .mk _ _ ks=>1+szL ks
def szL:List Ex→Nat
 | []=>0
 | k :: ks=>szE k+szL ks
end
theorem szE_eq (e:Ex):szE e=1+szL e.kids:=by obtain ⟨o,l,ks⟩:=e;rw [szE];rfl
theorem szE_mk (o l:Int) (ks:List Ex):szE (.mk o l ks)=1+szL ks:=by rw [szE]
theorem szL_cons (k:Ex) (ks:List Ex):szL (k :: ks)=szE k+szL ks:=by rw [szL]
theorem szL_nil:szL []=0:=by rw [szL]
theorem szL_app:∀ (a b:List Ex),szL (a++b)=szL a+szL b
 | [],b=>by simp [szL_nil]
 | k :: a,b=>by rw [List.cons_append,szL_cons,szL_cons,szL_app a b];omega
theorem szL_len:∀ ks:List Ex,ks.length≤szL ks
 | []=>by simp
 | k :: ks=>by have:=szL_len ks;rw [szL_cons,List.length_cons,szE_eq];omega
theorem szL_perm {a b:List Ex} (h:a.Perm b):szL a=szL b:=by
 induction h with
 | nil=>rfl
 | cons x _ ih=>rw [szL_cons,szL_cons,ih]
 | swap x y l=>simp only [szL_cons];omega
 | trans _ _ h1 h2=>exact h1.trans h2
theorem szL_sub {a b:List Ex} (h:a.Sublist b):szL a≤szL b:=by
 induction h with
 | slnil=>exact Nat.le_refl _
 | cons x _ ih=>rw [szL_cons];omega
 | cons_cons x _ ih=>rw [szL_cons,szL_cons];omega
theorem szL_mem {k:Ex}:∀ {ks:List Ex},k∈ks→szE k≤szL ks
 | a :: ks,h=>by
  rw [szL_cons]
  rcases List.mem_cons.1 h with rfl | h
  ·omega
  ·have:=szL_mem h;omega
theorem ddG_sub {α:Type} {q:α→α→Bool} {d:α} {xs:List α}:∀ m,m≤xs.length→(ddG q d xs m).Sublist (xs.take m)
 | 0,_=>by simp [ddG]
 | m+1,h=>by
  have ih:=ddG_sub (q:=q) (d:=d) (xs:=xs) m (by omega)
  rw [take_snocD d xs m (by omega)]
  unfold ddG
  split
  ·exact ih.trans (List.sublist_append_left _ _)
  ·exact ih.append (List.Sublist.refl _)
theorem szL_ord {l m:List Ex} (h:ordE l=some m):szL m≤szL l:=by
 cases h
 have h1:=szL_sub (ddG_sub (q:=eqX) (d:=default) (xs:=sortX l) (sortX l).length (Nat.le_refl _))
 rw [List.take_length,szL_perm (sortX_perm l)] at h1
 exact h1
theorem szL_flat (op:Int):∀ ks:List Ex,szL (flatE op ks)≤szL ks
 | []=>by simp [flatE]
 | k :: ks=>by
  have e:flatE op (k :: ks)=(if k.op=op then k.kids else [k])++flatE op ks:=by simp [flatE]
  have ih:=szL_flat op ks
  rw [e,szL_app,szL_cons]
  have:szL (if k.op=op then k.kids else [k])≤szE k:=by
   split
   ·rw [szE_eq];omega
   ·rw [szL_cons,szL_nil];omega
  omega
theorem szE_collect (op:Int) (ps:List Ex) (nn:Ex):szE (collectE op ps nn)≤szE nn∨szE (collectE op ps nn)≤1+szL ps:=by
 match ps with
 | []=>exact .inl (Nat.le_refl _)
 | [p]=>right;show szE p≤_;rw [szL_cons];omega
 | a :: b :: l=>right;show szE (.mk op 0 _)≤_;rw [szE_mk];omega
theorem sz_univ:szE univE=2:=by simp [univE,emptyE,szE_mk,szL_cons,szL_nil]
theorem sz_empty:szE emptyE=1:=by simp [emptyE,szE_mk,szL_nil]
theorem sz_unit:szE unitE=1:=by simp [unitE,szE_mk,szL_nil]
theorem lim_of {α:Type} {l:List α} (h:l.length≤1073741824):lim l=some l:=if_pos h
def OkJ (n:Int) (ks:List Ex) (j:Ex):Prop:=(szE j≤2∨szE j≤1+szL ks)∧((∀ k∈ks,wfE n k=true)→wfE n j=true)
theorem wf_node {n op:Int} {ks:List Ex} (ho:op=4∨op=5∨op=6) (hl:2≤ks.length) (h:∀ k∈ks,wfE n k=true):wfE n (.mk op 0 ks)=true:=by
 rw [wfE_mk]
 have:ks.all (wfE n)=true:=List.all_eq_true.2 h
 rcases ho with rfl | rfl | rfl <;> simp [this,hl]
theorem wf_node1 {n op:Int} {k:Ex} (ho:op=7∨op=8) (h:wfE n k=true):wfE n (.mk op 0 [k])=true:=by
 rw [wfE_mk]
 rcases ho with rfl | rfl <;> simp [h]
theorem wf_kids {n:Int} {k:Ex} (h:wfE n k=true):∀ x∈k.kids,wfE n x=true:=by
 obtain ⟨o,l,ks⟩:=k
 intro x hx
 simp only [Ex.kids] at hx
 rcases wf_cases h with ⟨_,rfl,_⟩ | ⟨_,⟨_,rfl⟩ | ⟨_,_,h⟩ | ⟨_,_,h⟩⟩
 ·cases hx
 ·cases hx
 ·exact h x hx
 ·exact h x hx
theorem wf_flat {n op:Int} {ks:List Ex} (h:∀ k∈ks,wfE n k=true):∀ x∈flatE op ks,wfE n x=true:=by
 intro x hx
 obtain ⟨k,hk,hx⟩:=List.mem_flatMap.1 hx
 split at hx
 ·exact wf_kids (h k hk) x hx
 ·simp at hx;subst hx;exact h x hk
theorem wf_collect {n op:Int} {ps:List Ex} {nn:Ex} (ho:op=4∨op=5∨op=6) (h:∀ k∈ps,wfE n k=true) (hn:wfE n nn=true):wfE n (collectE op ps nn)=true:=by
 match ps,h with
 | [],_=>exact hn
 | [p],h=>exact h p List.mem_cons_self
 | a :: b :: l,h=>exact wf_node ho (by simp) h
theorem wf_univ (n:Int):wfE n univE=true:=wf_node1 (.inr rfl) (by rw [emptyE,wfE_mk];simp)
theorem wf_empty (n:Int):wfE n emptyE=true:=by rw [emptyE,wfE_mk];simp
theorem wf_unit (n:Int):wfE n unitE=true:=by rw [unitE,wfE_mk];simp
theorem joinU_ok (n:Int) {ks:List Ex} (h:szL ks≤1073741824):∃ j,joinU ks=some j∧OkJ n ks j:=by
 unfold joinU
 split
 ·exact ⟨_,rfl,.inl (by rw [sz_univ];omega),fun _=>wf_univ n⟩
 ·have h1:=szL_flat 4 ks
  have h2:=szL_len (flatE 4 ks)
  rw [lim_of (by omega)]
  refine ⟨_,rfl,?_,fun hk=>?_⟩
  ·have h3:=szL_ord (l:=(flatE 4 ks).filter fun e=>!isEmptyE e) rfl
   have h4:=szL_sub (List.filter_sublist (l:=flatE 4 ks) (p:=fun e=>!isEmptyE e))
   have:=szE_collect 4 (compX (sortX ((flatE 4 ks).filter fun e=>!isEmptyE e))) emptyE
   rw [sz_empty] at this
   omega
  ·exact wf_collect (.inl rfl) (fun k hk'=>by rw [mem_compX,mem_sortX,List.mem_filter] at hk';exact wf_flat hk k hk'.1) (wf_empty n)
theorem joinA_ok (n:Int) {ks:List Ex} (h:szL ks≤1073741824):∃ j,joinA ks=some j∧OkJ n ks j:=by
 unfold joinA
 split
 ·exact ⟨_,rfl,.inl (by rw [sz_empty];omega),fun _=>wf_empty n⟩
 ·have h1:=szL_flat 6 ks
  have h2:=szL_len (flatE 6 ks)
  rw [lim_of (by omega)]
  refine ⟨_,rfl,?_,fun hk=>?_⟩
  ·have h3:=szL_ord (l:=(flatE 6 ks).filter fun e=>!isUnivE e) rfl
   have h4:=szL_sub (List.filter_sublist (l:=flatE 6 ks) (p:=fun e=>!isUnivE e))
   have:=szE_collect 6 (compX (sortX ((flatE 6 ks).filter fun e=>!isUnivE e))) univE
   rw [sz_univ] at this
   omega
  ·exact wf_collect (.inr (.inr rfl)) (fun k hk'=>by rw [mem_compX,mem_sortX,List.mem_filter] at hk';exact wf_flat hk k hk'.1) (wf_univ n)
theorem joinC_ok (n:Int) {ks:List Ex} (h:szL ks≤1073741824):∃ j,joinC ks=some j∧OkJ n ks j:=by
 unfold joinC
 split
 ·exact ⟨_,rfl,.inl (by rw [sz_empty];omega),fun _=>wf_empty n⟩
 ·have h1:=szL_flat 5 ks
  have h2:=szL_len (flatE 5 ks)
  rw [lim_of (by omega)]
  refine ⟨_,rfl,?_,fun hk=>?_⟩
  ·have h4:=szL_sub (List.filter_sublist (l:=flatE 5 ks) (p:=fun e=>!isUnitE e))
   have:=szE_collect 5 ((flatE 5 ks).filter fun e=>!isUnitE e) unitE
   rw [sz_unit] at this
   omega
  ·exact wf_collect (.inr (.inl rfl)) (fun k hk'=>by rw [List.mem_filter] at hk';exact wf_flat hk k hk'.1) (wf_unit n)
theorem join1_ok (n:Int) {op:Int} {k:Ex} (ho:op=7∨op=8):OkJ n [k] (join1 op k):=by
 have hs:szL [k]=szE k:=by rw [szL_cons,szL_nil];rfl
 unfold OkJ
 rw [hs]
 rcases ho with rfl | rfl
 ·unfold join1
  rw [if_neg (by decide),if_pos rfl]
  split
  ·exact ⟨.inl (by rw [sz_unit];omega),fun _=>wf_unit n⟩
  ·split
   ·exact ⟨.inr (by omega),fun h=>h k List.mem_cons_self⟩
   ·exact ⟨.inr (by rw [szE_mk,hs];omega),fun h=>wf_node1 (.inl rfl) (h k List.mem_cons_self)⟩
 ·unfold join1
  rw [if_pos rfl]
  split
  ·rename_i h1
   obtain ⟨q,hq⟩:=List.length_eq_one_iff.1 h1.2
   rw [hq]
   refine ⟨.inr ?_,fun h=>wf_kids (h k List.mem_cons_self) _ (by rw [hq];simp)⟩
   have:szE k=1+szE q:=by rw [szE_eq,hq,szL_cons,szL_nil];rfl
   simp;omega
  ·exact ⟨.inr (by rw [szE_mk,hs];omega),fun h=>wf_node1 (.inr rfl) (h k List.mem_cons_self)⟩
theorem joinE_ok (n:Int) {op:Int} {ks:List Ex} (ho:op=4∨op=5∨op=6∨(op=7∨op=8)∧ks.length=1) (h:szL ks≤1073741824):∃ j,joinE op ks=some j∧OkJ n ks j∧∀ w,LE j w↔nodeL op ks w:=by
 have key:∃ j,joinE op ks=some j∧OkJ n ks j:=by
  unfold joinE
  rcases ho with rfl | rfl | rfl | ⟨ho,hl⟩
  ·exact joinU_ok n h
  ·exact joinC_ok n h
  ·exact joinA_ok n h
  ·obtain ⟨k,rfl⟩:=List.length_eq_one_iff.1 hl
   rcases ho with rfl | rfl
   ·exact ⟨_,rfl,join1_ok n (.inl rfl)⟩
   ·exact ⟨_,rfl,join1_ok n (.inr rfl)⟩
 obtain ⟨j,h1,h2⟩:=key
 exact ⟨j,h1,h2,joinE_L h1 ho⟩
theorem node_case {n op lt:Int} {ks:List Ex} (h:wfE n (.mk op lt ks)=true) (hk:ks ≠ []):lt=0∧(op=4∨op=5∨op=6∨(op=7∨op=8)∧ks.length=1)∧∀ k∈ks,wfE n k=true:=by
 rcases wf_cases h with ⟨_,h,_⟩ | ⟨h0,⟨_,h⟩ | ⟨ho,hl,h⟩ | ⟨ho,hl,h⟩⟩
 ·exact absurd h hk
 ·exact absurd h hk
 ·exact ⟨h0,by rcases ho with h | h | h <;> simp [h],h⟩
 ·exact ⟨h0,.inr (.inr (.inr ⟨ho,hl⟩)),h⟩
def SimpOk (n:Int) (e:Ex):Prop:=wfE n e=true→szE e≤1000000→∃ e',simpE e=some e'∧szE e'≤2 * szE e∧wfE n e'=true∧SamL (LE e') (LE e)
theorem simpL_ok {n:Int}:∀ ks:List Ex,(∀ k∈ks,SimpOk n k)→(∀ k∈ks,wfE n k=true)→szL ks≤1000000→∃ l,simpL ks=some l∧szL l≤2 * szL ks∧l.length=ks.length∧(∀ k∈l,wfE n k=true)∧Sam2 l ks
 | [],_,_,_=>⟨[],by rw [simpL],by simp [szL_nil],rfl,by simp,.nil⟩
 | k :: ks,h,hw,hs=>by
  rw [szL_cons] at hs
  obtain ⟨a,h1,h2,h3,h4⟩:=h k List.mem_cons_self (hw k List.mem_cons_self) (by omega)
  obtain ⟨l,g1,g2,g3,g4,g5⟩:=simpL_ok ks (fun q hq=>h q (List.mem_cons_of_mem _ hq)) (fun q hq=>hw q (List.mem_cons_of_mem _ hq)) (by omega)
  refine ⟨a :: l,by rw [simpL,h1,g1];rfl,by rw [szL_cons,szL_cons];omega,by simp [g3],fun q hq=>?_,.cons h4 g5⟩
  rcases List.mem_cons.1 hq with rfl | hq
  ·exact h3
  ·exact g4 q hq
theorem simp_ok (n:Int) (e:Ex):SimpOk n e:=by
 induction e using Ex.indL with
 | _ op lt ks ih=>
  intro hw hs
  rw [szE_mk] at hs
  rw [simpE]
  by_cases hk:ks=[]
  ·subst hk
   exact ⟨_,rfl,by rw [szE_mk];omega,hw,.rfl⟩
  ·have hl:=szL_len ks
   have hpos:0<ks.length:=List.length_pos_iff.2 hk
   rw [if_neg (by omega),if_pos (by omega)]
   obtain ⟨h0,ho,hkw⟩:=node_case hw hk
   obtain ⟨l,g1,g2,g3,g4,g5⟩:=simpL_ok ks ih hkw (by omega)
   obtain ⟨j,j1,⟨j2,j3⟩,j4⟩:=joinE_ok n (op:=op) (ks:=l) (by rw [g3];exact ho) (by omega)
   refine ⟨j,by rw [g1];exact j1,by rw [szE_mk];omega,j3 g4,fun w=>?_⟩
   rw [j4,LE_node (by rcases ho with h | h | h | ⟨h | h,_⟩ <;> simp [h])]
   exact g5.node op w
theorem fits_some:∀ (d:Nat) (e:Ex) (left l:Nat),fitsE d e left=some l→l+szE e=left
 | 0,e,left,l,h=>by simp [fitsE] at h
 | d+1,e,left,l,h=>by
  unfold fitsE at h
  split at h
  ·cases h
  ·rename_i h0
   have key:∀ (ks:List Ex) (a b:Nat),ks.foldlM (fun l k=>fitsE d k l) a=some b→b+szL ks=a:=by
    intro ks
    induction ks with
    | nil=>intro a b h;simp at h;rw [szL_nil];omega
    | cons k ks ih=>
     intro a b h
     rw [List.foldlM_cons] at h
     obtain ⟨m,h1,h2⟩:=Option.bind_eq_some_iff.1 h
     have:=fits_some d k a m h1
     have:=ih m b h2
     rw [szL_cons];omega
   have:=key _ _ _ h
   rw [szE_eq];omega
theorem fits_of:∀ (d:Nat) (e:Ex) (left:Nat),szE e≤d→szE e≤left→fitsE d e left=some (left - szE e)
 | 0,e,left,h,_=>by rw [szE_eq] at h;omega
 | d+1,e,left,h,h2=>by
  rw [szE_eq] at h h2
  unfold fitsE
  rw [if_neg (by omega)]
  have key:∀ (ks:List Ex) (a:Nat),szL ks≤d→szL ks≤a→ks.foldlM (fun l k=>fitsE d k l) a=some (a - szL ks):=by
   intro ks
   induction ks with
   | nil=>intro a _ _;simp [szL_nil]
   | cons k ks ih=>
    intro a h h2
    rw [szL_cons] at h h2
    rw [List.foldlM_cons,fits_of d k a (by omega) (by omega)]
    show ks.foldlM (fun l k=>fitsE d k l) (a - szE k)=_
    rw [ih _ (by omega) (by omega),szL_cons];congr 1;omega
  rw [key _ _ (by omega) (by omega),szE_eq];congr 1;omega
theorem valid_sz {e:Ex} {n:Int} (h:validE e n=0):szE e≤400∧wfE n e=true∧1≤n∧n≤6:=by
 unfold validE at h
 split at h
 ·cases h
 ·rename_i h1
  split at h
  ·rename_i h2
   split at h
   ·rename_i h3
    obtain ⟨l,hl⟩:=Option.isSome_iff_exists.1 h2
    have:=fits_some 40 e 400 l hl
    exact ⟨by omega,h3,by omega,by omega⟩
   ·cases h
  ·cases h
theorem valid_of {e:Ex} {n:Int} (hn:1≤n∧n≤6) (hs:szE e≤40) (hw:wfE n e=true):validE e n=0:=by
 unfold validE
 rw [if_neg (by omega),fits_of 40 e 400 hs (by omega)]
 simp [hw]
def cb (n:Nat):Nat:=n * n * n
theorem cb_add (a b:Nat):cb a+cb b≤cb (a+b):=by
 unfold cb
 simp only [Nat.add_mul,Nat.mul_add]
 omega
theorem cb_one (n:Nat):cb (1+n)=1+3 * n+3 * (n * n)+cb n:=by
 unfold cb
 simp only [Nat.add_mul,Nat.mul_add,Nat.one_mul,Nat.mul_one]
 omega
theorem cb_le {n:Nat} (h:n≤500):cb n≤125000000:=by
 unfold cb
 have h1:n * n≤500 * 500:=Nat.mul_le_mul h h
 exact Nat.mul_le_mul h1 h
structure DvOk (c:UInt8) (e:Ex) (d:Dv):Prop where
 sz1:szE d.1≤2 * cb (szE e)
 sz2:szE d.2.1≤2 * szE e
 by_:∀ w,LE d.1 w↔LE e (c :: w)
 self:SamL (LE d.2.1) (LE e)
 nul:d.2.2=true↔LE e []
theorem star_cons {L:List UInt8→Prop} {c:UInt8} {w:List UInt8}:StarL L (c :: w)↔∃ u v,w=u++v∧L (c :: u)∧StarL L v:=by
 constructor
 ·intro h
  generalize hx:c :: w=x at h
  induction h with
  | nil=>cases hx
  | @cons u v h t ih=>
   cases u with
   | nil=>exact ih hx
   | cons a u=>
    simp only [List.cons_append,List.cons.injEq] at hx
    obtain ⟨rfl,rfl⟩:=hx
    exact ⟨u,v,rfl,h,t⟩
 ·rintro ⟨u,v,rfl,h1,h2⟩
  exact StarL.cons (u:=c :: u) h1 h2
theorem cat_cons {k:Ex} {ks:List Ex} {c:UInt8} {w:List UInt8}:LEcat (k :: ks) (c :: w)↔(∃ u v,w=u++v∧LE k (c :: u)∧LEcat ks v)∨(LE k []∧LEcat ks (c :: w)):=by
 simp only [LEcat]
 constructor
 ·rintro ⟨u,v,e,h1,h2⟩
  cases u with
  | nil=>rw [List.nil_append] at e;subst e;exact .inr ⟨h1,h2⟩
  | cons a u=>
   simp only [List.cons_append,List.cons.injEq] at e
   obtain ⟨rfl,rfl⟩:=e
   exact .inl ⟨u,v,rfl,h1,h2⟩
 ·rintro (⟨u,v,rfl,h1,h2⟩ | ⟨h1,h2⟩)
  ·exact ⟨c :: u,v,rfl,h1,h2⟩
  ·exact ⟨[],c :: w,rfl,h1,h2⟩
structure DLOk (c:UInt8) (ks:List Ex) (ds:List Dv):Prop where
 len:ds.length=ks.length
 sz1:szL (ds.map (·.1))≤2 * cb (szL ks)
 sz2:szL (ds.map (·.2.1))≤2 * szL ks
 any:∀ w,LEany (ds.map (·.1)) w↔LEany ks (c :: w)
 all:∀ w,LEall (ds.map (·.1)) w↔LEall ks (c :: w)
 self:Sam2 (ds.map (·.2.1)) ks
 nany:0<(ds.filter (·.2.2)).length↔LEany ks []
 nall:(ds.filter (·.2.2)).length=ds.length↔LEall ks []
section
variable {c : UInt8} {a : Int} {nm : Bool} {n : Int}
def DrOk (c:UInt8) (a:Int) (nm:Bool) (n:Int) (e:Ex):Prop:=wfE n e=true→szE e≤500→∃ d,dervE a nm e=some d∧DvOk c e d
theorem dervL_ok:∀ ks:List Ex,(∀ k∈ks,DrOk c a nm n k)→(∀ k∈ks,wfE n k=true)→szL ks≤500→∃ ds,dervL a nm ks=some ds∧DLOk c ks ds
 | [],_,_,_=>⟨[],by rw [dervL],⟨rfl,by simp [szL_nil],by simp [szL_nil],fun w=>by simp [LEany],fun w=>by simp [LEall],.nil,by simp [LEany],by simp [LEall]⟩⟩
 | k :: ks,h,hw,hs=>by
  rw [szL_cons] at hs
  obtain ⟨d,h1,h2⟩:=h k List.mem_cons_self (hw k List.mem_cons_self) (by omega)
  obtain ⟨ds,g1,g2⟩:=dervL_ok ks (fun q hq=>h q (List.mem_cons_of_mem _ hq)) (fun q hq=>hw q (List.mem_cons_of_mem _ hq)) (by omega)
  have hcb:=cb_add (szE k) (szL ks)
  have e1:=h2.sz1;have e2:=h2.sz2;have e3:=g2.sz1;have e4:=g2.sz2
  refine ⟨d :: ds,by rw [dervL,h1,g1];rfl,⟨by simp [g2.len],?_,?_,fun w=>?_,fun w=>?_,.cons h2.self g2.self,?_,?_⟩⟩
  ·rw [List.map_cons,szL_cons,szL_cons];omega
  ·rw [List.map_cons,szL_cons,szL_cons];omega
  ·rw [List.map_cons];simp only [LEany];rw [h2.by_,g2.any]
  ·rw [List.map_cons];simp only [LEall];rw [h2.by_,g2.all]
  ·simp only [LEany];rw [← h2.nul,← g2.nany,List.filter_cons]
   split
   ·rename_i hd;simp [hd]
   ·rename_i hd;simp [hd]
  ·simp only [LEall];rw [← h2.nul,← g2.nall,List.filter_cons]
   have:=List.length_filter_le (fun x:Dv=>x.2.2) ds
   split
   ·rename_i hd;simp [hd]
   ·rename_i hd
    simp only [List.length_cons,hd,Bool.false_eq_true,false_and,iff_false]
    omega
structure DCOk (c:UInt8) (ks:List Ex) (nl:Bool) (x:List Ex × List Ex × Bool):Prop where
 len:x.1.length≤ks.length
 slen:x.2.1.length=ks.length
 sz1:szL x.1≤2 * cb (szL ks)
 sz2:szL x.2.1≤2 * szL ks
 self:Sam2 x.2.1 ks
 nul:x.2.2=true↔nl=true∧LEall ks []
 parts:∃ ps,partsD x.1 x.2.1=some ps∧szL ps≤szL x.1+x.1.length * (2+szL x.2.1)∧∀ w,LEany ps w↔nl=true∧LEcat ks (c :: w)
theorem part_ok (b:Ex) (ss:List Ex) (h:szE b+szL ss≤1000000000):∃ p,(if b.op=1 then some b else joinE 5 (b :: ss))=some p∧szE p≤2+szE b+szL ss∧∀ w,LE p w↔LEcat (b :: ss) w:=by
 split
 ·rename_i h1
  refine ⟨b,rfl,by omega,fun w=>?_⟩
  rw [LE1 h1]
  refine ⟨False.elim,?_⟩
  rintro ⟨u,v,_,h2,_⟩
  exact (LE1 h1 u).1 h2
 ·obtain ⟨j,j1,⟨j2,_⟩,j4⟩:=joinE_ok 0 (op:=5) (ks:=b :: ss) (.inr (.inl rfl)) (by rw [szL_cons];omega)
  rw [szL_cons] at j2
  exact ⟨j,j1,by omega,fun w=>j4 w⟩
theorem dervC_ok:∀ (ks:List Ex) (nl:Bool),(∀ k∈ks,DrOk c a nm n k)→(∀ k∈ks,wfE n k=true)→szL ks≤500→∃ x,dervC a nm nl ks=some x∧DCOk c ks nl x
 | [],nl,_,_,_=>⟨([],[],nl),by rw [dervC],⟨Nat.le_refl _,rfl,by simp [szL_nil],by simp [szL_nil],.nil,by simp [LEall],[],by rw [partsD],by simp [szL_nil],fun w=>by simp [LEany,LEcat]⟩⟩
 | k :: ks,true,h,hw,hs=>by
  rw [szL_cons] at hs
  obtain ⟨d,h1,h2⟩:=h k List.mem_cons_self (hw k List.mem_cons_self) (by omega)
  obtain ⟨x,g1,g2⟩:=dervC_ok ks d.2.2 (fun q hq=>h q (List.mem_cons_of_mem _ hq)) (fun q hq=>hw q (List.mem_cons_of_mem _ hq)) (by omega)
  have hcb:=cb_add (szE k) (szL ks)
  have e1:=h2.sz1;have e2:=h2.sz2;have e3:=g2.sz1;have e4:=g2.sz2;have e5:=g2.len;have e6:=g2.slen
  have hb1:=cb_le (n:=szE k) (by omega)
  have hb2:=cb_le (n:=szL ks) (by omega)
  obtain ⟨ps,p1,p2,p3⟩:=g2.parts
  obtain ⟨p,q1,q2,q3⟩:=part_ok d.1 x.2.1 (by omega)
  refine ⟨(d.1 :: x.1,d.2.1 :: x.2.1,x.2.2),by rw [dervC,h1];show (dervC a nm d.2.2 ks).bind _=_;rw [g1];rfl,⟨by simp;omega,by simp [e6],?_,?_,.cons h2.self g2.self,?_,p :: ps,?_,?_,fun w=>?_⟩⟩
  ·rw [szL_cons,szL_cons];omega
  ·rw [szL_cons,szL_cons];omega
  ·simp only [LEall];rw [g2.nul,h2.nul];simp
  ·rw [partsD];simp only [List.drop_succ_cons,List.drop_zero];rw [q1,p1];rfl
  ·simp only [szL_cons,List.length_cons]
   have hm:x.1.length * (2+szL x.2.1)≤x.1.length * (2+(szE d.2.1+szL x.2.1)):=Nat.mul_le_mul_left _ (by omega)
   rw [Nat.add_mul,Nat.one_mul];omega
  ·simp only [LEany]
   rw [q3,p3,cat_cons,h2.nul]
   simp only [true_and]
   have e:LEcat (d.1 :: x.2.1) w↔∃ u v,w=u++v∧LE k (c :: u)∧LEcat ks v:=by
    simp only [LEcat]
    constructor
    ·rintro ⟨u,v,e,r1,r2⟩;exact ⟨u,v,e,(h2.by_ u).1 r1,(g2.self.cat v).1 r2⟩
    ·rintro ⟨u,v,e,r1,r2⟩;exact ⟨u,v,e,(h2.by_ u).2 r1,(g2.self.cat v).2 r2⟩
   rw [e]
 | k :: ks,false,h,hw,hs=>by
  rw [szL_cons] at hs
  have hself:∃ s,(if nm then some k else simpE k)=some s∧szE s≤2 * szE k∧SamL (LE s) (LE k):=by
   split
   ·exact ⟨k,rfl,by omega,.rfl⟩
   ·obtain ⟨s,h1,h2,_,h3⟩:=simp_ok n k (hw k List.mem_cons_self) (by omega)
    exact ⟨s,h1,h2,h3⟩
  obtain ⟨s,h1,h2,h3⟩:=hself
  obtain ⟨x,g1,g2⟩:=dervC_ok ks false (fun q hq=>h q (List.mem_cons_of_mem _ hq)) (fun q hq=>hw q (List.mem_cons_of_mem _ hq)) (by omega)
  have hcb:=cb_add (szE k) (szL ks)
  have e3:=g2.sz1;have e4:=g2.sz2;have e5:=g2.len;have e6:=g2.slen
  have hx:x.1=[]:=by
   have key:∀ (ks:List Ex) (x:List Ex × List Ex × Bool),dervC a nm false ks=some x→x.1=[]:=by
    intro ks
    induction ks with
    | nil=>intro x hx;rw [dervC] at hx;cases hx;rfl
    | cons k ks ih=>
     intro x hx
     rw [dervC] at hx
     obtain ⟨_,_,hx⟩:=Option.bind_eq_some_iff.1 hx
     obtain ⟨y,hy,hx⟩:=Option.bind_eq_some_iff.1 hx
     cases hx
     exact ih y hy
   exact key ks x g1
  refine ⟨(x.1,s :: x.2.1,x.2.2),by rw [dervC,h1];show (dervC a nm false ks).bind _=_;rw [g1];rfl,⟨by simp;omega,by simp [e6],?_,?_,.cons h3 g2.self,?_,[],?_,?_,fun w=>?_⟩⟩
  ·show szL x.1≤2 * cb (szL (k :: ks));rw [szL_cons];omega
  ·rw [szL_cons,szL_cons];omega
  ·rw [g2.nul];simp
  ·show partsD x.1 _=_;rw [hx,partsD]
  ·rw [szL_nil];omega
  ·simp [LEany]
theorem derv_ok (hc:(c.toNat:Int) - 97=a) (e:Ex):DrOk c a nm n e:=by
 induction e using Ex.indL with
 | _ op lt ks ih=>
  intro hw hs
  rw [szE_mk] at hs
  have hcb1:=cb_one (szL ks)
  have hl:=szL_len ks
  rcases wf_cases hw with ⟨rfl,rfl,h0,h1⟩ | ⟨rfl,h9⟩
  ·
   refine ⟨(if lt=a then unitE else emptyE,.mk 3 lt [],false),by rw [dervE];rfl,⟨?_,?_,fun w=>?_,.rfl,?_⟩⟩
   ·rw [szE_mk,hcb1];split
    ·rw [sz_unit];omega
    ·rw [sz_empty];omega
   ·simp only [szE_mk];omega
   ·show LE (if lt=a then unitE else emptyE) w↔_
    simp only [LE]
    split
    ·rename_i he
     rw [unitE_L]
     simp only [show (3:Int) ≠ 2 by decide,if_false,if_true]
     constructor
     ·rintro rfl;exact ⟨c,rfl,by omega⟩
     ·rintro ⟨c',e,_⟩;simp at e;exact e.2
    ·rename_i he
     simp only [show (3:Int) ≠ 2 by decide,if_false,if_true]
     refine ⟨fun h=>absurd h (emptyE_L w),?_⟩
     rintro ⟨c',e,h2⟩
     simp at e;obtain ⟨rfl,rfl⟩:=e;exact absurd (by omega) he
   ·simp [LE]
  ·rcases h9 with ⟨h12,rfl⟩ | ⟨ho,hlen,hk⟩ | ⟨ho,hlen,hk⟩
   ·rcases h12 with rfl | rfl
    ·refine ⟨(emptyE,emptyE,false),by rw [dervE];rfl,⟨?_,?_,fun w=>?_,fun w=>?_,?_⟩⟩
     ·rw [szE_mk,hcb1,sz_empty];omega
     ·rw [szE_mk];show szE emptyE≤_;rw [sz_empty];omega
     ·rw [LE1 rfl,LE1 rfl]
     ·rw [LE1 rfl,LE1 rfl]
     ·simp [LE]
    ·refine ⟨(emptyE,unitE,true),by rw [dervE];rfl,⟨?_,?_,fun w=>?_,fun w=>?_,?_⟩⟩
     ·rw [szE_mk,hcb1,sz_empty];omega
     ·rw [szE_mk];show szE unitE≤_;rw [sz_unit];omega
     ·rw [LE1 rfl,LE2 rfl];simp
     ·rw [LE2 rfl,LE2 rfl]
     ·simp [LE]
   ·by_cases h5:op=5
    ·
     subst h5
     obtain ⟨x,g1,g2⟩:=dervC_ok (n:=n) ks true (fun k h=>ih k h) hk (by omega)
     obtain ⟨ps,p1,p2,p3⟩:=g2.parts
     have e1:=g2.sz1;have e2:=g2.sz2;have e3:=g2.len
     have hb:=cb_le (n:=szL ks) (by omega)
     have hm1:x.1.length * (2+szL x.2.1)≤szL ks * (2+2 * szL ks):=Nat.mul_le_mul (by omega) (by omega)
     have hm2:szL ks * (2+2 * szL ks)=2 * szL ks+2 * (szL ks * szL ks):=by rw [Nat.mul_add];simp only [Nat.mul_left_comm,Nat.mul_comm]
     have hm3:szL ks * szL ks≤500 * 500:=Nat.mul_le_mul (by omega) (by omega)
     obtain ⟨b,b1,⟨b2,_⟩,b4⟩:=joinE_ok n (op:=4) (ks:=ps) (.inl rfl) (by omega)
     obtain ⟨s,s1,⟨s2,_⟩,s4⟩:=joinE_ok n (op:=5) (ks:=x.2.1) (.inr (.inl rfl)) (by omega)
     refine ⟨(b,s,x.2.2),?_,⟨?_,?_,fun w=>?_,fun w=>?_,?_⟩⟩
     ·rw [dervE]
      simp only [show (5:Int) ≠ 2 by decide,show (5:Int) ≠ 3 by decide,show (5:Int) ≠ 4 by decide,show (5:Int) ≠ 6 by decide,show (5:Int) ≠ 7 by decide,show (5:Int) ≠ 8 by decide,or_self,if_false,if_true]
      rw [if_pos (by omega),g1]
      show (partsD x.1 x.2.1).bind _=_
      rw [p1]
      show (joinE 4 ps).bind _=_
      rw [b1]
      show (joinE 5 x.2.1).bind _=_
      rw [s1];rfl
     ·rw [szE_mk,hcb1];show szE b≤_;omega
     ·rw [szE_mk];show szE s≤_;omega
     ·rw [b4,LE5 rfl]
      show LEany ps w↔LEcat ks (c :: w)
      rw [p3];simp
     ·rw [s4,LE5 rfl]
      exact g2.self.cat w
     ·show x.2.2=true↔_
      rw [g2.nul,LE5 rfl]
      show _↔LEcat ks []
      have hcat:∀ ks:List Ex,LEcat ks []↔LEall ks []:=fun ks=>by
       induction ks with
       | nil=>simp [LEcat,LEall]
       | cons k ks ihk=>
        simp only [LEcat,LEall]
        constructor
        ·rintro ⟨u,v,e,h1,h2⟩
         obtain ⟨rfl,rfl⟩:=List.append_eq_nil_iff.1 e.symm
         exact ⟨h1,ihk.1 h2⟩
        ·rintro ⟨h1,h2⟩;exact ⟨[],[],rfl,h1,ihk.2 h2⟩
      rw [hcat];simp
    ·
     have ho':op=4∨op=6:=by omega
     obtain ⟨ds,g1,g2⟩:=dervL_ok (n:=n) ks (fun k h=>ih k h) hk (by omega)
     have e1:=g2.sz1;have e2:=g2.sz2;have e3:=g2.len
     have hb:=cb_le (n:=szL ks) (by omega)
     obtain ⟨b,b1,⟨b2,_⟩,b4⟩:=joinE_ok n (op:=op) (ks:=ds.map (·.1)) (by omega) (by omega)
     obtain ⟨s,s1,⟨s2,_⟩,s4⟩:=joinE_ok n (op:=op) (ks:=ds.map (·.2.1)) (by omega) (by omega)
     refine ⟨(b,s,if op=4 then decide (0<(ds.filter (·.2.2)).length) else if op=6 then decide ((ds.filter (·.2.2)).length=ds.length) else if op=8 then decide ((ds.filter (·.2.2)).length=0) else false),?_,⟨?_,?_,fun w=>?_,fun w=>?_,?_⟩⟩
     ·rw [dervE,if_neg (by omega),if_neg (by omega),if_pos (by omega),if_pos (by omega),g1]
      show boolD op ds=_
      unfold boolD
      rw [b1]
      show (joinE op (ds.map (·.2.1))).bind _=_
      rw [s1];rfl
     ·rw [szE_mk,hcb1];show szE b≤_;omega
     ·rw [szE_mk];show szE s≤_;omega
     ·rw [b4]
      rcases ho' with rfl | rfl
      ·rw [LE4 rfl];exact g2.any w
      ·rw [LE6 rfl];exact g2.all w
     ·rw [s4,LE_node (by omega)];exact g2.self.node op w
     ·rcases ho' with rfl | rfl
      ·rw [LE4 rfl];simp only [if_true,decide_eq_true_eq];exact g2.nany
      ·rw [LE6 rfl];simp only [show (6:Int) ≠ 4 by decide,if_false,if_true,decide_eq_true_eq];exact g2.nall
   ·obtain ⟨k,rfl⟩:=List.length_eq_one_iff.1 hlen
    obtain ⟨ds,g1,g2⟩:=dervL_ok (n:=n) [k] (fun k h=>ih k h) hk (by omega)
    have e1:=g2.sz1;have e2:=g2.sz2
    have hb:=cb_le (n:=szL [k]) (by omega)
    obtain ⟨d,rfl⟩:=List.length_eq_one_iff.1 (g2.len.trans hlen)
    simp only [List.map_cons,List.map_nil,szL_cons,szL_nil] at e1 e2 hcb1 hs
    have hkp:1≤szE k:=by rw [szE_eq];omega
    rcases ho with rfl | rfl
    ·
     obtain ⟨s,s1,⟨s2,_⟩,s4⟩:=joinE_ok n (op:=7) (ks:=[d.2.1]) (.inr (.inr (.inr ⟨.inl rfl,rfl⟩))) (by rw [szL_cons,szL_nil];omega)
     rw [szL_cons,szL_nil] at s2
     simp only [szL_cons,szL_nil] at hb
     obtain ⟨b,b1,⟨b2,_⟩,b4⟩:=joinE_ok n (op:=5) (ks:=[d.1,s]) (.inr (.inl rfl)) (by rw [szL_cons,szL_cons,szL_nil];omega)
     rw [szL_cons,szL_cons,szL_nil] at b2
     have hss:SamL (LE s) (StarL (LEany [k])):=fun w=>by
      rw [s4]
      exact StarL.same (fun w=>(g2.self.any w)) w
     refine ⟨(b,s,true),?_,⟨?_,?_,fun w=>?_,fun w=>?_,?_⟩⟩
     ·rw [dervE,if_neg (by omega),if_neg (by omega),if_neg (by omega),if_pos rfl,g1]
      show (joinE 7 [d.2.1]).bind (fun s=>(joinE 5 [d.1,s]).bind fun b=>some (b,s,true))=_
      rw [s1,Option.bind_some,b1,Option.bind_some]
     ·rw [szE_mk];simp only [szL_cons,szL_nil];rw [hcb1];show szE b≤_;omega
     ·rw [szE_mk];simp only [szL_cons,szL_nil];show szE s≤_;omega
     ·rw [b4,LE7 rfl,star_cons]
      show LEcat [d.1,s] w↔∃ u v,w=u++v∧LEany [k] (c :: u)∧StarL (LEany [k]) v
      have hany:=g2.any
      simp only [List.map_cons,List.map_nil,LEany_one] at hany
      simp only [LEany_one]
      constructor
      ·rintro ⟨u,v,e,r1,r2⟩
       exact ⟨u,v,e,(hany u).1 r1,(hss v).1 (LEcat_one.1 r2)⟩
      ·rintro ⟨u,v,e,r1,r2⟩
       exact ⟨u,v,e,(hany u).2 r1,LEcat_one.2 ((hss v).2 r2)⟩
     ·show LE s w↔LE (.mk 7 0 [k]) w
      rw [LE7 (e:=.mk 7 0 [k]) rfl];exact hss w
     ·rw [LE7 rfl];simp;exact .nil
    ·
     obtain ⟨b,b1,⟨b2,_⟩,b4⟩:=joinE_ok n (op:=8) (ks:=[d.1]) (.inr (.inr (.inr ⟨.inr rfl,rfl⟩))) (by rw [szL_cons,szL_nil];simp only [szL_cons,szL_nil] at hb;omega)
     obtain ⟨s,s1,⟨s2,_⟩,s4⟩:=joinE_ok n (op:=8) (ks:=[d.2.1]) (.inr (.inr (.inr ⟨.inr rfl,rfl⟩))) (by rw [szL_cons,szL_nil];omega)
     rw [szL_cons,szL_nil] at b2 s2
     refine ⟨(b,s,if (8:Int)=4 then decide (0<([d].filter (·.2.2)).length) else if (8:Int)=6 then decide (([d].filter (·.2.2)).length=[d].length) else if (8:Int)=8 then decide (([d].filter (·.2.2)).length=0) else false),?_,⟨?_,?_,fun w=>?_,fun w=>?_,?_⟩⟩
     ·rw [dervE,if_neg (by omega),if_neg (by omega),if_pos (by omega),if_pos (by simp),g1]
      show boolD 8 [d]=_
      unfold boolD
      simp only [List.map_cons,List.map_nil,b1,s1,Option.bind_some]
     ·rw [szE_mk];simp only [szL_cons,szL_nil];rw [hcb1];show szE b≤_;omega
     ·rw [szE_mk];simp only [szL_cons,szL_nil];show szE s≤_;omega
     ·rw [b4,LE8 rfl]
      show ¬ LEany [d.1] w↔¬ LEany [k] (c :: w)
      have:=g2.any w
      simp only [List.map_cons,List.map_nil] at this
      rw [this]
     ·rw [s4,LE8 rfl]
      show ¬ LEany [d.2.1] w↔¬ LEany [k] w
      have:=g2.self.any w
      simp only [List.map_cons,List.map_nil] at this
      rw [this]
     ·rw [LE8 rfl]
      show _↔¬ LEany [k] []
      rw [← g2.nany]
      simp only [show (8:Int) ≠ 4 by decide,show (8:Int) ≠ 6 by decide,if_false,if_true,decide_eq_true_eq]
      omega
end
end Go.Sx
namespace Go.Sx
theorem wr_len (e:Ex):(wrE e).length+3≤4 * szE e:=by
 induction e using Ex.indL with
 | _ op lt ks ih=>
  rw [szE_mk]
  have key:∀ (sep:List UInt8) (least:Int) (ks:List Ex) (b:Bool),sep.length≤1→(∀ k∈ks,(wrE k).length+3≤4 * szE k)→(wrL sep least b ks).length≤4 * szL ks:=by
   intro sep least ks
   induction ks with
   | nil=>intro b _ _;simp [wrL]
   | cons k ks ihk=>
    intro b hs h
    have h1:=h k List.mem_cons_self
    have h2:=ihk true hs (fun q hq=>h q (List.mem_cons_of_mem _ hq))
    rw [wrL,szL_cons]
    simp only [List.length_append]
    have h3:(if b then sep else []).length≤1:=by split <;> simp [hs]
    have h4:(if least≤levE k.op then wrE k else 40 :: (wrE k++[41])).length≤(wrE k).length+2:=by split <;> simp
    omega
  have k1:=key [124] 2 ks false (by simp) ih
  have k2:=key [38] 3 ks false (by simp) ih
  have k3:=key [] 4 ks false (by simp) ih
  have k4:=key [] 5 ks false (by simp) ih
  rw [wrE]
  repeat' split
  all_goals try simp only [List.length_cons,List.length_nil,List.length_append]
  all_goals omega
theorem fmt_ok {e:Ex} (h:validE e 6=0):fmtE e=some (wrE e):=by
 unfold fmtE
 rw [if_pos h]
 have h1:=(valid_sz h).1
 have h2:=wr_len e
 exact lim_of (by omega)
theorem ltr_n {x:Nat} (h:x<100):((ltr x).toNat:Int) - 97=(x:Int):=by rw [ltr_toNat (by omega)];omega
structure RunOk (r:Run):Prop where
 L:1≤r.L∧r.L≤6
 ex1:1≤r.ex.length∧r.ex.length≤512
 val:∀ i,i<r.ex.length→validE (r.ex.getD i default) 6=0
 num:∀ t i,mget r.num t=some i→∃ k:Nat,i=(k:Int)∧k<r.ex.length∧wrE (r.ex.getD k default)=t
 nx:r.nx.length=r.dn
 dn:r.dn≤r.ex.length
 row:∀ i,i<r.dn→(r.nx.getD i []).length=r.L∧∀ x,x<r.L→∃ k:Nat,(r.nx.getD i []).getD x 0=(k:Int)∧k<r.ex.length∧∀ w,LE (r.ex.getD k default) w↔LE (r.ex.getD i default) (ltr x :: w)
theorem getD_l {α:Type} {d:α} {xs ys:List α} {i:Nat} (h:i<xs.length):(xs++ys).getD i d=xs.getD i d:=by
 rw [List.getD_eq_getElem?_getD,List.getElem?_append_left h,← List.getD_eq_getElem?_getD]
theorem getD_r {α:Type} {d a:α} {xs:List α}:(xs++[a]).getD xs.length d=a:=by
 rw [List.getD_eq_getElem?_getD,List.getElem?_append_right (Nat.le_refl _)];simp
theorem addR_ok {r:Run} (h:RunOk r) {e:Ex} (hv:validE e 6=0) (hl:r.ex.length<512):∃ r2,addR r e=some r2∧RunOk r2∧r2.ex=r.ex++[e]∧r2.nx=r.nx∧r2.dn=r.dn∧r2.L=r.L:=by
 unfold addR
 rw [fmt_ok hv]
 refine ⟨_,rfl,⟨h.L,by simp;omega,fun i hi=>?_,fun t i ht=>?_,h.nx,by have:=h.dn;simp;omega,fun i hi=>?_⟩,rfl,rfl,rfl,rfl⟩
 ·simp only [List.length_append,List.length_singleton] at hi
  rcases Nat.lt_or_ge i r.ex.length with h1 | h1
  ·show validE ((r.ex++[e]).getD i default) 6=0
   rw [getD_l h1];exact h.val i h1
  ·have:i=r.ex.length:=by omega
   subst this
   show validE ((r.ex++[e]).getD r.ex.length default) 6=0
   rw [getD_r];exact hv
 ·rw [mget_mset] at ht
  split at ht
  ·rename_i he
   cases ht
   refine ⟨r.ex.length,rfl,by simp,?_⟩
   show wrE ((r.ex++[e]).getD r.ex.length default)=t
   rw [getD_r];exact he.symm
  ·obtain ⟨k,h1,h2,h3⟩:=h.num t i ht
   refine ⟨k,h1,by simp;omega,?_⟩
   show wrE ((r.ex++[e]).getD k default)=t
   rw [getD_l h2];exact h3
 ·have hi:i<r.dn:=hi
  obtain ⟨h1,h2⟩:=h.row i hi
  refine ⟨h1,fun x hx=>?_⟩
  obtain ⟨k,h3,h4,h5⟩:=h2 x hx
  refine ⟨k,h3,by simp;omega,fun w=>?_⟩
  show LE ((r.ex++[e]).getD k default) w↔LE ((r.ex++[e]).getD i default) _
  have:=h.dn
  rw [getD_l h4,getD_l (by omega)];exact h5 w
def RowOk (r:Run) (row:List Int) (x:Nat):Prop:=row.length=x∧∀ y,y<x→∃ k:Nat,row.getD y 0=(k:Int)∧k<r.ex.length∧∀ w,LE (r.ex.getD k default) w↔LE (r.ex.getD r.dn default) (ltr y :: w)
theorem let_ok {e:Ex} (hv:validE e 6=0) {x:Nat} (hx:x<6):∃ p,letE e (x:Int)=some p∧(p.2=3∨(p.2=0∧validE p.1 6=0∧∀ w,LE p.1 w↔LE e (ltr x :: w))):=by
 obtain ⟨hs,hw,_⟩:=valid_sz hv
 obtain ⟨d,h1,h2⟩:=derv_ok (n:=6) (nm:=true) (ltr_n (x:=x) (by omega)) e hw (by omega)
 unfold letE
 rw [h1]
 refine ⟨_,rfl,?_⟩
 split
 ·rename_i h;exact .inr ⟨rfl,h,h2.by_⟩
 ·exact .inl rfl
theorem rowR_ok:∀ (n x:Nat) (r:Run) (row:List Int),RunOk r→r.dn<r.ex.length→x+n=r.L→RowOk r row x →
  ∃ r2 row2 e,rowR n x r row=some (r2,row2,e)∧(e=3∨(e=0∧RunOk r2∧r2.dn=r.dn∧r2.nx=r.nx∧r2.L=r.L∧r2.dn<r2.ex.length∧RowOk r2 row2 r.L∧∃ ys,r2.ex=r.ex++ys))
 | 0,x,r,row,h,hd,hx,hr=>⟨r,row,0,by rw [rowR],.inr ⟨rfl,h,rfl,rfl,rfl,hd,by rw [← hx];exact hr,[],by simp⟩⟩
 | n+1,x,r,row,h,hd,hx,hr=>by
  have hL:=h.L
  obtain ⟨p,h1,h2⟩:=let_ok (h.val r.dn hd) (x:=x) (by omega)
  rw [rowR,h1,Option.bind_some]
  rcases h2 with h2 | ⟨h2,h3,h4⟩
  ·rw [if_pos (by omega)];exact ⟨_,_,_,rfl,.inl h2⟩
  ·rw [if_neg (by omega),fmt_ok h3,Option.bind_some]
   cases hm:mget r.num (wrE p.1) with
   | some i=>
    obtain ⟨k,rfl,h5,h6⟩:=h.num _ _ hm
    have he:r.ex.getD k default=p.1:=wr_inj (valid_sz (h.val k h5)).2.1 (valid_sz h3).2.1 h6
    obtain ⟨r2,row2,e,g1,g2⟩:=rowR_ok n (x+1) r (row++[(k:Int)]) h hd (by omega) ⟨by simp [hr.1],fun y hy=>by
     rcases Nat.lt_or_ge y x with h7 | h7
     ·obtain ⟨k',q1,q2,q3⟩:=hr.2 y h7
      exact ⟨k',by rw [getD_l (by rw [hr.1];exact h7)];exact q1,q2,q3⟩
     ·have:y=x:=by omega
      subst this
      refine ⟨k,?_,h5,fun w=>by rw [he];exact h4 w⟩
      have:=hr.1;subst this;exact getD_r⟩
    exact ⟨r2,row2,e,g1,g2⟩
   | none=>
    show ∃ r2 row2 e,(if r.ex.length=512 then some (r,row,3) else _)=_∧_
    split
    ·exact ⟨_,_,_,rfl,.inl rfl⟩
    ·have hex:=h.ex1
     obtain ⟨r1,a1,a2,a3,a4,a5,a6⟩:=addR_ok h h3 (by omega)
     rw [a1,Option.bind_some]
     have hd1:r1.dn<r1.ex.length:=by rw [a5,a3];simp;omega
     obtain ⟨r2,row2,e,g1,g2⟩:=rowR_ok n (x+1) r1 (row++[(r.ex.length:Int)]) a2 hd1 (by omega) ⟨by simp [hr.1],fun y hy=>by
      rcases Nat.lt_or_ge y x with h7 | h7
      ·obtain ⟨k',q1,q2,q3⟩:=hr.2 y h7
       refine ⟨k',by rw [getD_l (by rw [hr.1];exact h7)];exact q1,by rw [a3];simp;omega,fun w=>?_⟩
       rw [a3,a5,getD_l q2,getD_l hd];exact q3 w
      ·have:y=x:=by omega
       subst this
       refine ⟨r.ex.length,?_,by rw [a3];simp,fun w=>?_⟩
       ·have:=hr.1;subst this;exact getD_r
       ·rw [a3,a5,getD_r,getD_l hd];exact h4 w⟩
     refine ⟨r2,row2,e,g1,?_⟩
     rcases g2 with g2 | ⟨g2,g3,g4,g5,g6,g7,g8,ys,g9⟩
     ·exact .inl g2
     ·exact .inr ⟨g2,g3,by rw [g4,a5],by rw [g5,a4],by rw [g6,a6],g7,by rw [← a6];exact g8,p.1 :: ys,by rw [g9,a3];simp⟩
theorem procR_ok {r:Run} (h:RunOk r) (hd:r.dn<r.ex.length):∃ p,procR r=some p∧(p.2=3∨(p.2=0∧RunOk p.1∧p.1.dn=r.dn+1∧p.1.L=r.L∧∃ ys,p.1.ex=r.ex++ys)):=by
 obtain ⟨r2,row2,e,g1,g2⟩:=rowR_ok r.L 0 r [] h hd (by omega) ⟨rfl,fun y hy=>by omega⟩
 unfold procR
 rw [g1,Option.bind_some]
 rcases g2 with g2 | ⟨g2,g3,g4,g5,g6,g7,g8,g9⟩
 ·subst g2;exact ⟨_,rfl,.inl rfl⟩
 ·subst g2
  refine ⟨_,rfl,.inr ⟨rfl,⟨g3.L,g3.ex1,g3.val,g3.num,by simp [g3.nx],by show r2.dn+1≤r2.ex.length;omega,fun i hi=>?_⟩,by rw [g4],g6,g9⟩⟩
  have hi':i<r2.dn+1:=hi
  have hn:=g3.nx
  rcases Nat.lt_or_ge i r2.dn with h1 | h1
  ·obtain ⟨q1,q2⟩:=g3.row i h1
   show ((r2.nx++[row2]).getD i []).length=r2.L∧_
   rw [getD_l (by omega)]
   exact ⟨q1,q2⟩
  ·have:i=r2.dn:=by omega
   subst this
   show ((r2.nx++[row2]).getD r2.dn []).length=r2.L∧_
   have e:(r2.nx++[row2]).getD r2.dn []=row2:=by rw [← hn];exact getD_r
   show _∧∀ x,x<r2.L→∃ k:Nat,((r2.nx++[row2]).getD r2.dn []).getD x 0=_∧_
   rw [e,g6]
   exact g8
theorem loopR_ok:∀ (n:Nat) (r:Run),RunOk r→514≤n+r.dn→∃ p,loopR n r=some p∧(p.2=3∨(p.2=0∧RunOk p.1∧p.1.dn=p.1.ex.length∧p.1.L=r.L∧∃ ys,p.1.ex=r.ex++ys))
 | 0,r,h,hn=>by have:=h.dn;have:=h.ex1;omega
 | n+1,r,h,hn=>by
  rw [loopR]
  split
  ·rename_i h1;exact ⟨_,rfl,.inr ⟨rfl,h,h1,rfl,[],by simp⟩⟩
  ·rename_i h1
   have:=h.dn
   obtain ⟨p,g1,g2⟩:=procR_ok h (by omega)
   rw [g1,Option.bind_some]
   rcases g2 with g2 | ⟨g2,g3,g4,g5,ys,g6⟩
   ·rw [if_pos (by omega)];exact ⟨p,rfl,.inl g2⟩
   ·rw [if_neg (by omega)]
    obtain ⟨p2,q1,q2⟩:=loopR_ok n p.1 g3 (by omega)
    refine ⟨p2,q1,?_⟩
    rcases q2 with q2 | ⟨q2,q3,q4,q5,zs,q6⟩
    ·exact .inl q2
    ·exact .inr ⟨q2,q3,q4,by rw [q5,g5],ys++zs,by rw [q6,g6];simp⟩
theorem ltr_back {c:UInt8} (h:97≤c.toNat):ltr ((c.toNat:Int) - 97).toNat=c:=by
 unfold ltr
 have:97+((c.toNat:Int) - 97).toNat=c.toNat:=by omega
 rw [this];simp
theorem autR_ok {r:Run} (h:RunOk r) (hd:r.dn=r.ex.length):VD (autR r)∧∀ (l:List UInt8) (q:Nat),q<r.ex.length→Okw (autR r) l→(finQ (autR r) (runI (autR r) (q:Int) l)=true↔LE (r.ex.getD q default) l):=by
 have hL:=h.L
 refine ⟨⟨by show 1≤(r.L:Int)∧(r.L:Int)≤6;omega,by simp [autR,h.ex1.2],by simp [autR,h.nx,hd],by have:=h.ex1;simp [autR];omega,fun i hi=>?_,fun i x hi hx=>?_⟩,?_⟩
 ·have hi:i<r.dn:=by rw [hd];simpa [autR] using hi
  have:=(h.row i hi).1
  show ((r.nx.getD i []).length:Int)=(r.L:Int)
  rw [this]
 ·have hi:i<r.dn:=by rw [hd];simpa [autR] using hi
  obtain ⟨h1,h2⟩:=h.row i hi
  have hx:x<(r.nx.getD i []).length:=hx
  obtain ⟨k,h3,h4,_⟩:=h2 x (by omega)
  show 0≤(r.nx.getD i []).getD x 0∧(r.nx.getD i []).getD x 0<((r.ex.map hasU).length:Int)
  rw [h3,List.length_map];omega
 ·intro l
  induction l with
  | nil=>
   intro q hq _
   show (r.ex.map hasU).getD ((q:Int)).toNat false=true↔_
   have e:(r.ex.map hasU).getD ((q:Int)).toNat false=hasU (r.ex.getD q default):=by simp [List.getD_eq_getElem?_getD,hq]
   rw [e]
   exact hasU_L 6 _ (valid_sz (h.val q hq)).2.1
  | cons c l ih=>
   intro q hq ho
   obtain ⟨hc,hl⟩:=okw_cons.1 ho
   have hc':97≤c.toNat∧(c.toNat:Int) - 97<(r.L:Int):=of_decide_eq_true hc
   obtain ⟨k,h3,h4,h5⟩:=(h.row q (by omega)).2 ((c.toNat:Int) - 97).toNat (by omega)
   rw [runI_cons]
   have e:stepQ (autR r) (q:Int) ((c.toNat:Int) - 97).toNat=(k:Int):=by
    show (r.nx.getD ((q:Int)).toNat []).getD _ 0=_
    rw [Int.toNat_natCast];exact h3
   rw [e,ih k h4 hl,h5,ltr_back hc'.1]
def BuildOk (e:Ex) (n:Int) (d:Dfa) (er:Int):Prop:=(er=3∧d=zeroD)∨(er=0∧VD d∧d.L=n∧∀ l:List UInt8,l.all (okB n)=true→(finQ d (runI d d.s l)=true↔LE e l))
theorem build_ok {e:Ex} {n:Int} (hv:validE e n=0) (hs:szE e≤20):∃ d er,buildE e n=some (d,er)∧BuildOk e n d er:=by
 obtain ⟨_,hw,h1,h6⟩:=valid_sz hv
 have hw6:=wf_mono h6 e hw
 have hv6:=valid_of (n:=6) (by omega) (by omega) hw6
 obtain ⟨e1,s1,s2,s3,s4⟩:=simp_ok 6 e hw6 (by omega)
 have hv1:=valid_of (n:=6) (by omega) (by omega) s3
 unfold buildE
 rw [if_neg (by omega)]
 unfold normE
 rw [if_pos hv6,s1,Option.bind_some]
 have ha:∃ r,addR ⟨n.toNat,[],[],0,[]⟩ e1=some r∧RunOk r∧r.ex=[e1]∧r.L=n.toNat∧r.dn=0:=by
  unfold addR
  rw [fmt_ok hv1]
  refine ⟨_,rfl,⟨by show 1≤n.toNat∧n.toNat≤6;omega,by simp,fun i hi=>?_,fun t i ht=>?_,rfl,by simp,fun i hi=>by simp at hi⟩,rfl,rfl,rfl⟩
  ·have:i=0:=by simpa using hi
   subst this;exact hv1
  ·rw [mget_mset] at ht
   split at ht
   ·rename_i he;cases ht;exact ⟨0,rfl,by simp,he.symm⟩
   ·cases ht
 obtain ⟨r,a1,a2,a3,a4,a5⟩:=ha
 rw [a1,Option.bind_some]
 obtain ⟨p,p1,p2⟩:=loopR_ok 600 r a2 (by omega)
 rw [p1,Option.bind_some]
 rcases p2 with p2 | ⟨p2,p3,p4,p5,ys,p6⟩
 ·rw [if_pos (by omega)]
  exact ⟨_,_,rfl,.inl ⟨p2,rfl⟩⟩
 ·rw [if_neg (by omega)]
  obtain ⟨q1,q2⟩:=autR_ok p3 p4
  have hL:((p.1.L:Nat):Int)=n:=by rw [p5,a4];omega
  refine ⟨_,_,rfl,.inr ⟨rfl,q1,hL,fun l hl=>?_⟩⟩
  have:=q2 l 0 (by have:=p3.ex1;omega) (by show l.all (okB ((p.1.L:Nat):Int))=true;rw [hL];exact hl)
  rw [p6,a3] at this
  show finQ _ (runI _ ((0:Nat):Int) l)=true↔_
  rw [this]
  exact s4 l
end Go.Sx
namespace Go.Sx
open Go.RowKit
theorem CallS.ofM {P:Program} {f:FuncId} {vs:List Value} {w:World} {φ:Value→Asn→List Asn→Prop} (h:CallM P f vs w (fun _=>False) φ):CallS P f vs w (fun r o=>∃ A' o',φ r A' o'∧o=A' :: o'):=by
 refine Calls.mono h ?_
 rintro e w' ⟨v,A',own',hφ,he,hr⟩
 exact ⟨v,A' :: own',⟨A',own',hφ,rfl⟩,he,hr⟩
theorem Ret.flat {w w':World} {F:Nat→Prop} {l:List Asn} (h:Ret F w w' [bigA l]):Ret F w w' l:=by
 obtain ⟨hx,Fs,hh,hin⟩:=h
 have hw:HW ⟨default,0,w,F⟩ [bigA l] w':=⟨hx,Fs,hh,fun i b hb=>(hin i b hb).symm⟩
 have:=Ret.of (HW.flat hw)
 rwa [List.append_nil] at this
theorem CallS.post {P:Program} {f:FuncId} {vs:List Value} {w:World} {φ ψ:Value→List Asn→Prop} (h:CallS P f vs w φ) (hp:∀ v o w',φ v o→Ret (fun _=>False) w w' o→∃ o',ψ v o'∧Ret (fun _=>False) w w' o'):CallS P f vs w ψ:=by
 refine Calls.mono h ?_
 rintro e w' ⟨v,o,hφ,he,hr⟩
 obtain ⟨o',h1,h2⟩:=hp v o w' hφ hr
 exact ⟨v,o',h1,he,h2⟩
def baseB (w:World):Bs:=⟨w,fun b=>b<w.heap.size⟩
theorem baseOk (w:World):BsOk (baseB w) w (fun _=>False):=fun b hb=>⟨id,rfl,hb⟩
theorem base_deep {w:World} {s:Value} {ks:List Ex} (h:RdK (cellR (fun _=>False) w) s ks) {F:Nat→Prop} {w':World}:(Itm.deep s ks).ok (cellF (baseB w) F w'):=
 RdK.mono (fun a u hu=>.inr ⟨World.block_lt_of_cell? _ _ hu.2,hu.2⟩) h
theorem base_forest {w:World} {l:List Itm} (h:∀ x∈l,x.ok (cellF (baseB w) (fun _=>False) w)):(forest (baseB w) l).holds w (fun _=>False):=⟨h,fun b hb=>hb.elim⟩
end Go.Sx
